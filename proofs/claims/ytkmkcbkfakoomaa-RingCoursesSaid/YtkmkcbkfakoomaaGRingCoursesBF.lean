/- Facts and contracts that the claim uses. No condition of its own. -/
import Derived.Test.YtkmkcbkfakoomaaGRingCoursesBE
import Derived.Sort.Row
import Derived.Shelf.Strings.Builder1
import Derived.Shelf.Small.Strs
import Derived.Shelf.Strings.BuilderF
import Derived.Shelf.Strings.BuilderK
import Derived.Shelf.Strings.Search1
import Derived.Shelf.Bits.Mul64
import Derived.Shelf.Strings.BuilderCap
import Derived.Shelf.Slices.Turned
import Derived.Shelf.Slices.Equal
import Derived.Ground.Names2Prog
import Derived.Shelf.Slices.Clone
import Derived.Shelf.Slices.Delete
import Derived.Shelf.Slices.Cells
import Derived.Shelf.Slices.Empties
import Derived.Shelf.Slices.Empties2
import Derived.Test.YtkmkcbkfakoomaaProg
set_option linter.unusedVariables false
set_option linter.unusedSimpArgs false
namespace Go.Proofs.Ytkmkcbkfakoomaa
open Go.RowKit
structure Mine (w : World) (B : Nat) (A : Option Addr) (cap : Nat) (xs : List Int) : Prop where
  ints : IsInts w A cap xs
  low : ∀ b o, A = some ⟨b, o, none⟩ → B ≤ b ∧ b < w.heap.size
  free : ∀ b o, A = some ⟨b, o, none⟩ → ∀ i, i < xs.length → w.frozen? ⟨b, o + i, none⟩ = false
theorem Mine.of_own {w : World} {B e : Nat} {A : Option Addr} {cap : Nat} {xs : List Int} (h : w.ownsRow B e 1 (.slice A xs.length cap) xs.length (xs.map (Value.int .i64))) (hI : IsInts w A cap xs) : Mine w B A cap xs := by
  have hlt := h.lt
  refine ⟨hI, fun b o hA => ?_, fun b o hA i hi => ?_⟩
  · subst hA; exact hlt b rfl
  · subst hA
    rcases h.2 with ⟨h1, h0⟩ | ⟨g, cap', cur, h1, _, hh, _⟩
    · cases h1
    · cases h1
      simp [World.frozen?, hh]
theorem Mine.kept {w w' : World} {B : Nat} {A : Option Addr} {cap : Nat} {xs : List Int} {row : Option Nat} (h : Mine w B A cap xs) (hg : w.grownBy w' row) (hne : ∀ b o, A = some ⟨b, o, none⟩ → row ≠ some b) : Mine w' B A cap xs :=
  ⟨h.ints.kept hg hne, fun b o hA => ⟨(h.low b o hA).1, Nat.lt_of_lt_of_le (h.low b o hA).2 hg.size⟩, fun b o hA i hi => (World.frozen?_of_block (a := ⟨b, o + i, none⟩) (hg.block b (h.low b o hA).2 (fun e => hne b o hA e.symm))).trans (h.free b o hA i hi)⟩
theorem Mine.alloc {w : World} {B : Nat} {A : Option Addr} {cap : Nat} {xs : List Int} (h : Mine w B A cap xs) (o : Obj) : Mine (w.alloc o) B A cap xs := h.kept (World.grownBy_alloc _ _ none) (by simp)
theorem Mine.below {w w' : World} {B C : Nat} {A : Option Addr} {cap : Nat} {xs : List Int} (h : Mine w B A cap xs) (hb : Below C w w') (hC : w.heap.size ≤ C) : Mine w' B A cap xs :=
  h.kept (row := none) ⟨hb.os, hb.tape, hb.output, hb.size, fun k hk _ => hb.block k (by omega)⟩ (by simp)
theorem Mine.mono {w : World} {B B' : Nat} {A : Option Addr} {cap : Nat} {xs : List Int} (h : Mine w B A cap xs) (hB : B' ≤ B) : Mine w B' A cap xs := ⟨h.ints, fun b o hA => ⟨Nat.le_trans hB (h.low b o hA).1, (h.low b o hA).2⟩, h.free⟩
open Go.Sort in
theorem Mine.holds {w : World} {B b o cap : Nat} {xs : List Int} (h : Mine w B (some ⟨b, o, none⟩) cap xs) : Holds (Value.int .i64) w b o xs.toArray := by
  intro j hj
  have hj' : j < xs.length := by simpa using hj
  obtain ⟨b', o', e, _, hc⟩ := h.ints.row (by rintro rfl; simp at hj')
  cases e
  refine ⟨?_, h.free b o rfl j hj'⟩
  rw [hc j hj', getD_lt 0 hj']
  simp [hj']
open Go.Sort in
theorem Mine.put {w : World} {B b o cap q : Nat} {xs : List Int} (h : Mine w B (some ⟨b, o, none⟩) cap xs) (ys zs : List Int) (hl : (ys ++ zs).length = xs.length) (hbd : ∀ i, i < ys.length → in64 (ys.getD i 0)) :
    Mine (putRow (Value.int .i64) (Sort.ahead w q) b o (ys ++ zs).toArray) B (some ⟨b, o, none⟩) cap ys := by
  have hH := h.holds
  have h1 := h.ints.len
  have hlen : ys.length ≤ xs.length := by simp at hl; omega
  refine ⟨⟨by omega, h.ints.cap_le, hbd, fun hy => ⟨b, o, rfl, ?_, fun i hi => ?_⟩⟩, fun b' o' hA => ?_, fun b' o' hA i hi => ?_⟩
  · simpa using (h.low b o rfl).2
  · rw [cell?_putRow (Value.int .i64) (Sort.ahead w q) b o xs.toArray (ys ++ zs).toArray hH (by simpa using hl) i (by simp; omega)]
    rw [getD_lt 0 hi]
    simp [List.getElem_append_left hi, show i < ys.length + zs.length by omega]
  · cases hA
    have := h.low b o rfl
    exact ⟨this.1, by simpa using this.2⟩
  · cases hA
    simpa using h.free b o rfl i (by omega)
end Go.Proofs.Ytkmkcbkfakoomaa

/- Facts and contracts that the claim uses. No condition of its own. -/
namespace Go.Proofs
open Go.Shelf
def Try.lays169_ren : Go.Shelf.Ren := ⟨fun | 169 => 53 | n => n, fun | 70 => 71 | 9 => 9 | 0 => 0 | 72 => 74 | 37 => 72 | 127 => 82 | 3 => 3 | 5 => 5 | n => n, fun | n => n⟩
theorem Try.lays169 : Go.Proofs.Lays.n169 Try.prog Try.lays169_ren := {
  mixed := by kernel_rfl
  f169 := Try.func53.trans (congrArg some (by kernel_rfl))
  t0 := Try.underlying0
  a0 := Try.isAgg0
  z0 := Try.sizeOf0
  v0 := Try.zeroValue0
  t3 := Try.underlying3
  a3 := Try.isAgg3
  z3 := Try.sizeOf3
  v3 := Try.zeroValue3
  t9 := Try.underlying9
  a9 := Try.isAgg9
  z9 := Try.sizeOf9
  v9 := Try.zeroValue9
  t37 := Try.underlying72
  a37 := Try.isAgg72
  z37 := Try.sizeOf72
  v37 := Try.zeroValue72
  t70 := Try.underlying71
  a70 := Try.isAgg71
  z70 := Try.sizeOf71
  v70 := Try.zeroValue71
  t72 := Try.underlying74
  a72 := Try.isAgg74
  z72 := Try.sizeOf74
  v72 := Try.zeroValue74
  t127 := Try.underlying82
  a127 := Try.isAgg82
  z127 := Try.sizeOf82
  v127 := Try.zeroValue82 }
theorem Try.Builder_Extra_169 : Builder.Extra Try.prog Try.lays169_ren := {
  sizeBuilder := by kernel_rfl
  liesBuilder := by kernel_rfl
  t5 := Try.underlying5
  a5 := Try.isAgg5
  z5 := Try.sizeOf5
  v5 := Try.zeroValue5
  infoByte := by kernel_rfl
  cellsByte := by kernel_rfl
  sizeByte := by kernel_rfl
  neB5 := by decide }
open Go.RowKit in
theorem Try.Builder_String_any (B b : Nat) (l : List UInt8) (w : World) (h : Lib.IsBuilder 74 5 B b (Lib.byteCells l) w) (hBw : B ≤ w.heap.size) :
    Calls Try.prog 53 #[.pointer (some ⟨b, 0, none⟩)] w fun e w' => e = .returned (.string ⟨l.toArray⟩) ∧ Below B w w' := Any.Builder_String_any Try.lays169 Try.Builder_Extra_169 B b l w h hBw
def Try.lays137_ren : Go.Shelf.Ren := ⟨fun | 137 => 50 | 217 => 54 | 266 => 56 | n => n, fun | 9 => 9 | 5 => 5 | 3 => 3 | n => n, fun | n => n⟩
theorem Try.lays137 : Go.Proofs.Lays.n137 Try.prog Try.lays137_ren := {
  mixed := by kernel_rfl
  f137 := Try.func50.trans (congrArg some (by kernel_rfl))
  f217 := Try.func54.trans (congrArg some (by kernel_rfl))
  f266 := Try.func56.trans (congrArg some (by kernel_rfl))
  t3 := Try.underlying3
  a3 := Try.isAgg3
  z3 := Try.sizeOf3
  v3 := Try.zeroValue3
  t5 := Try.underlying5
  a5 := Try.isAgg5
  z5 := Try.sizeOf5
  v5 := Try.zeroValue5
  t9 := Try.underlying9
  a9 := Try.isAgg9
  z9 := Try.sizeOf9
  v9 := Try.zeroValue9 }
open Go.RowKit in
theorem Try.strings_IndexByte (s : ByteArray) (c : Int) (w : World) :
    Calls Try.prog 50 #[.string s, .int .u8 c] w fun e w' => e = .returned (.int .i64 (Lib.indexByte s.data.toList c.toNat.toUInt8)) ∧ w' = w := Any.strings_IndexByte Try.lays137 s c w
def Try.lays212_ren : Go.Shelf.Ren := ⟨fun | 212 => 37 | 263 => 47 | 264 => 48 | n => n, fun | 46 => 46 | 51 => 64 | 146 => 65 | 53 => 67 | 148 => 68 | n => n, fun | n => n⟩
theorem Try.lays212 : Go.Proofs.Lays.n212 Try.prog Try.lays212_ren := {
  mixed := by kernel_rfl
  f212 := Try.func37.trans (congrArg some (by kernel_rfl))
  f263 := Try.func47.trans (congrArg some (by kernel_rfl))
  f264 := Try.func48.trans (congrArg some (by kernel_rfl))
  t46 := Try.underlying46
  a46 := Try.isAgg46
  z46 := Try.sizeOf46
  v46 := Try.zeroValue46
  t51 := Try.underlying64
  a51 := Try.isAgg64
  z51 := Try.sizeOf64
  v51 := Try.zeroValue64
  t53 := Try.underlying67
  a53 := Try.isAgg67
  z53 := Try.sizeOf67
  v53 := Try.zeroValue67
  t146 := Try.underlying65
  a146 := Try.isAgg65
  z146 := Try.sizeOf65
  v146 := Try.zeroValue65
  t148 := Try.underlying68
  a148 := Try.isAgg68
  z148 := Try.sizeOf68
  v148 := Try.zeroValue68 }
open Go.RowKit Go.Lib in
theorem Try.bits_Mul (x y : Nat) (hx : x < 18446744073709551616) (hy : y < 18446744073709551616) (w : World) :
    Calls Try.prog 37 #[.int .u64 x, .int .u64 y] w fun e w' => e = .returned (.tuple #[.int .u64 ((x * y / 18446744073709551616 : Nat) : Int), .int .u64 ((x * y % 18446744073709551616 : Nat) : Int)]) ∧ w' = w := Any.bits_Mul Try.lays212 x y hx hy w
def Try.lays107_ren : Go.Shelf.Ren := ⟨fun | 107 => 24 | 108 => 30 | n => n, fun | 28 => 22 | 3 => 3 | 4 => 4 | 0 => 0 | n => n, fun | n => n⟩
theorem Try.lays107 : Go.Proofs.Lays.n107 Try.prog Try.lays107_ren := {
  mixed := by kernel_rfl
  f107 := Try.func24.trans (congrArg some (by kernel_rfl))
  f108 := Try.func30.trans (congrArg some (by kernel_rfl))
  t0 := Try.underlying0
  a0 := Try.isAgg0
  z0 := Try.sizeOf0
  v0 := Try.zeroValue0
  t3 := Try.underlying3
  a3 := Try.isAgg3
  z3 := Try.sizeOf3
  v3 := Try.zeroValue3
  t4 := Try.underlying4
  a4 := Try.isAgg4
  z4 := Try.sizeOf4
  v4 := Try.zeroValue4
  t28 := Try.underlying22
  a28 := Try.isAgg22
  z28 := Try.sizeOf22
  v28 := Try.zeroValue22 }
open Go.Lib in
theorem Try.slices_Contains_int (b off n c : Nat) (zs : List Int) (x : Int) (w : World) (hz : n ≤ zs.length) (hbig : n ≤ 9223372036854775807) (hc : ∀ j, j < zs.length → w.cell? ⟨b, off + j, none⟩ = some (.int .i64 (zs.getD j 0))) :
    Calls Try.prog 24 #[.slice (some ⟨b, off, none⟩) n c, .int .i64 x] w fun e w' => e = .returned (.bool ((zs.take n).contains x)) ∧ w' = w := Any.slices_Contains_int Try.lays107 b off n c zs x w hz hbig hc
open Go.Lib in
theorem Try.slices_Contains_int_empty (a : Option Addr) (c : Nat) (x : Int) (w : World) :
    Calls Try.prog 24 #[.slice a 0 c, .int .i64 x] w fun e w' => e = .returned (.bool false) ∧ w' = w := Any.slices_Contains_int_empty Try.lays107 a c x w
end Go.Proofs
