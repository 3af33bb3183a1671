/-
  Rows of ints that the call may write: 'Mine'. Nothing of the program is here.
-/
import Derived.Test.YtgjfpmjllpgadaaGTopPermutationBraidsBD
import Derived.Sort.Row
import Derived.Shelf.Small.Bits
import Derived.Shelf.Strconv.Itoa0
import Derived.Shelf.Bits.Mul64
import Derived.Shelf.Slices.Turned
import Derived.Shelf.Slices.Reverse
import Derived.Shelf.Slices.Equal
import Derived.Ground.Names2Prog
import Derived.Shelf.Slices.Clone
import Derived.Shelf.Slices.SearchI
import Derived.Shelf.Slices.Delete
import Derived.Shelf.Slices.Cells
import Derived.Shelf.Slices.Empties
import Derived.Shelf.Slices.Empties2
import Derived.Ground.SlgnProg
import Derived.Shelf.SlicesE.Clone
import Derived.Test.YtgjfpmjllpgadaaProg
import Derived.Test.YtgjfpmjllpgadaaRows
import Derived.Test.YtgjfpmjllpgadaaGTopPermutationBraidsAC
import Derived.Test.YtgjfpmjllpgadaaGTopPermutationBraidsAA
set_option linter.unusedVariables false
set_option linter.unusedSimpArgs false
namespace Go.Proofs.Ytgjfpmjllpgadaa
open Go.RowKit

/-- '.slice A xs.length cap' reads as xs, lies in a block from B on, and may be written. -/
structure Mine (w : World) (B : Nat) (A : Option Addr) (cap : Nat) (xs : List Int) : Prop where
  ints : IsInts w A cap xs
  low : ∀ b o, A = some ⟨b, o, none⟩ → B ≤ b ∧ b < w.heap.size
  free : ∀ b o, A = some ⟨b, o, none⟩ → ∀ i, i < xs.length → w.frozen? ⟨b, o + i, none⟩ = false

def blkOf (A : Option Addr) : Option Nat := A.map (·.block)

theorem Mine.kept {w w' : World} {B : Nat} {A : Option Addr} {cap : Nat} {xs : List Int} {row : Option Nat} (h : Mine w B A cap xs) (hg : w.grownBy w' row) (hne : ∀ b o, A = some ⟨b, o, none⟩ → row ≠ some b) : Mine w' B A cap xs :=
  ⟨h.ints.kept hg hne, fun b o hA => ⟨(h.low b o hA).1, Nat.lt_of_lt_of_le (h.low b o hA).2 hg.size⟩, fun b o hA i hi => (World.frozen?_of_block (a := ⟨b, o + i, none⟩) (hg.block b (h.low b o hA).2 (fun e => hne b o hA e.symm))).trans (h.free b o hA i hi)⟩
theorem Mine.alloc {w : World} {B : Nat} {A : Option Addr} {cap : Nat} {xs : List Int} (h : Mine w B A cap xs) (o : Obj) : Mine (w.alloc o) B A cap xs := h.kept (World.grownBy_alloc _ _ none) (by simp)
theorem Mine.below {w w' : World} {B C : Nat} {A : Option Addr} {cap : Nat} {xs : List Int} (h : Mine w B A cap xs) (hb : Below C w w') (hC : w.heap.size ≤ C) : Mine w' B A cap xs :=
  h.kept (row := none) ⟨hb.os, hb.tape, hb.output, hb.size, fun k hk _ => hb.block k (by omega)⟩ (by simp)
theorem Mine.mono {w : World} {B B' : Nat} {A : Option Addr} {cap : Nat} {xs : List Int} (h : Mine w B A cap xs) (hB : B' ≤ B) : Mine w B' A cap xs := ⟨h.ints, fun b o hA => ⟨Nat.le_trans hB (h.low b o hA).1, (h.low b o hA).2⟩, h.free⟩

open Go.Sort in
theorem Mine.holds {w : World} {B b o cap : Nat} {xs : List Int} (h : Mine w B (some ⟨b, o, none⟩) cap xs) : Holds (Value.int .i64) w b o xs.toArray := by
  intro j hj
  have hj' : j < xs.length := by simpa using hj
  obtain ⟨b', o', e, _, hc⟩ := h.ints.row (by rintro rfl; simp at hj')
  cases e
  refine ⟨?_, h.free b o rfl j hj'⟩
  rw [hc j hj', getD_lt 0 hj']
  simp [hj']
open Go.Sort in
/-- Behind a store of a whole row of the same length or a longer one. -/
theorem Mine.put {w : World} {B b o cap q : Nat} {xs : List Int} (h : Mine w B (some ⟨b, o, none⟩) cap xs) (ys zs : List Int) (hl : (ys ++ zs).length = xs.length) (hbd : ∀ i, i < ys.length → in64 (ys.getD i 0)) :
    Mine (putRow (Value.int .i64) (Sort.ahead w q) b o (ys ++ zs).toArray) B (some ⟨b, o, none⟩) cap ys := by
  have hH := h.holds
  have h1 := h.ints.len
  have hlen : ys.length ≤ xs.length := by simp at hl; omega
  refine ⟨⟨by omega, h.ints.cap_le, hbd, fun hy => ⟨b, o, rfl, ?_, fun i hi => ?_⟩⟩, fun b' o' hA => ?_, fun b' o' hA i hi => ?_⟩
  · simpa using (h.low b o rfl).2
  · rw [cell?_putRow (Value.int .i64) (Sort.ahead w q) b o xs.toArray (ys ++ zs).toArray hH (by simpa using hl) i (by simp; omega)]
    rw [getD_lt 0 hi]
    simp [List.getElem_append_left hi, show i < ys.length + zs.length by omega]
  · cases hA
    have := h.low b o rfl
    exact ⟨this.1, by simpa using this.2⟩
  · cases hA
    simpa using h.free b o rfl i (by omega)

end Go.Proofs.Ytgjfpmjllpgadaa

/- The contracts of the library functions that this seat calls, laid by the shelf at its translation. No condition of its own. -/
namespace Go.Proofs
open Go.Shelf
def Try.lays128_ren : Go.Shelf.Ren := ⟨fun | 128 => 160 | n => n, fun | 51 => 133 | 3 => 3 | 4 => 4 | 46 => 127 | 5 => 5 | 9 => 9 | n => n, fun | n => n⟩
def Try.lays125_ren : Go.Shelf.Ren := ⟨fun | 125 => 146 | 128 => 160 | 129 => 161 | n => n, fun | 46 => 127 | 3 => 3 | 51 => 133 | 53 => 136 | 4 => 4 | 5 => 5 | 9 => 9 | n => n, fun | n => n⟩
def Try.lays129_ren : Go.Shelf.Ren := ⟨fun | 129 => 161 | n => n, fun | 53 => 136 | 3 => 3 | 4 => 4 | 46 => 127 | 5 => 5 | 9 => 9 | n => n, fun | n => n⟩
def Try.lays264_ren : Go.Shelf.Ren := ⟨fun | 264 => 150 | n => n, fun | 53 => 136 | 46 => 127 | n => n, fun | n => n⟩
def Try.lays212_ren : Go.Shelf.Ren := ⟨fun | 212 => 138 | 263 => 149 | 264 => 150 | n => n, fun | 46 => 127 | 51 => 133 | 146 => 134 | 53 => 136 | 148 => 137 | n => n, fun | n => n⟩
def Try.lays108_ren : Go.Shelf.Ren := ⟨fun | 108 => 98 | n => n, fun | 28 => 22 | 3 => 3 | 0 => 0 | 4 => 4 | n => n, fun | n => n⟩
def Try.lays107_ren : Go.Shelf.Ren := ⟨fun | 107 => 97 | 108 => 98 | n => n, fun | 28 => 22 | 3 => 3 | 4 => 4 | 0 => 0 | n => n, fun | n => n⟩
theorem Try.lays107 : Go.Proofs.Lays.n107 Try.prog Try.lays107_ren := {
  mixed := by kernel_rfl
  f107 := Try.func97.trans (congrArg some (by kernel_rfl))
  f108 := Try.func98.trans (congrArg some (by kernel_rfl))
  t0 := Try.underlying0
  a0 := Try.isAgg0
  z0 := Try.sizeOf0
  v0 := Try.zeroValue0
  t3 := Try.underlying3
  a3 := Try.isAgg3
  z3 := Try.sizeOf3
  v3 := Try.zeroValue3
  t4 := Try.underlying4
  a4 := Try.isAgg4
  z4 := Try.sizeOf4
  v4 := Try.zeroValue4
  t28 := Try.underlying22
  a28 := Try.isAgg22
  z28 := Try.sizeOf22
  v28 := Try.zeroValue22 }
open Go.Lib in
theorem Try.slices_Contains_int (b off n c : Nat) (zs : List Int) (x : Int) (w : World) (hz : n ≤ zs.length) (hbig : n ≤ 9223372036854775807) (hc : ∀ j, j < zs.length → w.cell? ⟨b, off + j, none⟩ = some (.int .i64 (zs.getD j 0))) :
    Calls Try.prog 97 #[.slice (some ⟨b, off, none⟩) n c, .int .i64 x] w fun e w' => e = .returned (.bool ((zs.take n).contains x)) ∧ w' = w := Any.slices_Contains_int Try.lays107 b off n c zs x w hz hbig hc
open Go.Lib in
theorem Try.slices_Contains_int_empty (a : Option Addr) (c : Nat) (x : Int) (w : World) :
    Calls Try.prog 97 #[.slice a 0 c, .int .i64 x] w fun e w' => e = .returned (.bool false) ∧ w' = w := Any.slices_Contains_int_empty Try.lays107 a c x w
def Try.lays112_ren : Go.Shelf.Ren := ⟨fun | 112 => 136 | n => n, fun | 28 => 22 | 3 => 3 | 4 => 4 | 0 => 0 | n => n, fun | n => n⟩
def Try.lays111_ren : Go.Shelf.Ren := ⟨fun | 111 => 20 | n => n, fun | 28 => 22 | 3 => 3 | 4 => 4 | 0 => 0 | n => n, fun | n => n⟩
def Try.laysNm215_ren : Go.Shelf.Ren := ⟨fun | 15 => 76 | n => n, fun | 22 => 22 | 3 => 3 | 4 => 4 | n => n, fun | n => n⟩
def Try.laysNm237_ren : Go.Shelf.Ren := ⟨fun | 37 => 170 | n => n, fun | 3 => 3 | 4 => 4 | n => n, fun | n => n⟩
def Try.laysNm231_ren : Go.Shelf.Ren := ⟨fun | 31 => 157 | 37 => 170 | n => n, fun | 3 => 3 | 4 => 4 | n => n, fun | n => n⟩
def Try.laysNm223_ren : Go.Shelf.Ren := ⟨fun | 23 => 129 | n => n, fun | 22 => 22 | 3 => 3 | 4 => 4 | 0 => 0 | n => n, fun | n => n⟩
def Try.laysSlE041_f76_ren : Go.Shelf.Ren := ⟨fun | 41 => 76 | n => n, fun | 22 => 22 | 23 => 3 | 4 => 4 | n => n, fun | n => n⟩
end Go.Proofs

/- Contracts of functions of this seat, and plain facts for them: used by the claims. No condition of its own. -/
set_option linter.unusedVariables false
set_option linter.unusedSimpArgs false
namespace Go.Proofs.Ytgjfpmjllpgadaa
open Go.RowKit

theorem info3 : (Try.prog.info? 3).map (fun i => (i.zero, i.size, i.bytes)) = some (some (.int .i64 0), 1, 8) := by kernel_rfl
theorem slices_contains (A : Option Addr) (cap : Nat) (xs : List Int) (x : Int) (w : World) (h : IsInts w A cap xs) (k : Nat) (hk : k ≤ xs.length) :
    Calls Try.prog 97 #[.slice A k cap, .int .i64 x] w fun e w' => e = .returned (.bool ((xs.take k).contains x)) ∧ w = w' := by
  have h1 := h.len
  have h2 := h.cap_le
  by_cases hx : xs = []
  · subst hx
    obtain rfl : k = 0 := by simpa using hk
    exact (Try.slices_Contains_int_empty A cap x w).mono fun _ _ ⟨a, b⟩ => ⟨a, b.symm⟩
  · obtain ⟨b, o, rfl, _, hc⟩ := h.row hx
    exact (Try.slices_Contains_int b o k cap xs x w hk (by omega) hc).mono fun _ _ ⟨a, b⟩ => ⟨a, b.symm⟩
set_option maxHeartbeats 400000 in
theorem clip_c (A : Option Addr) (n cap : Nat) (w : World) (hn : n ≤ cap) (hc : cap ≤ 9223372036854775807) :
    Calls Try.prog 75 #[.slice A n cap] w fun e w' => e = .returned (.slice A n n) ∧ w = w' := by
  go_enter Try.func75, Try.ntmps75
  go_wp2
  go_ret
  exact ⟨rfl, rfl⟩
end Go.Proofs.Ytgjfpmjllpgadaa

/- Contracts of functions of this seat, and plain facts for them: used by the claims. No condition of its own. -/
set_option linter.unusedVariables false
set_option linter.unusedSimpArgs false
namespace Go.Proofs.Ytgjfpmjllpgadaa
open Go.RowKit

/-- The fault of the element at k. -/
def pfAt (xs : List Int) (k : Nat) : Int :=
  if xs.getD k 0 < 0 ∨ (xs.length : Int) ≤ xs.getD k 0 then 1 else if xs.getD k 0 ∈ xs.take k then 5 else 0
def permFault (xs : List Int) : Int := if 9 < xs.length then 2 else firstNZ (pfAt xs) xs.length

theorem pfAt_one {xs : List Int} {k : Nat} (hk : k < xs.length) (h : xs[k] < 0 ∨ (xs.length : Int) ≤ xs[k]) : pfAt xs k = 1 := by
  unfold pfAt; rw [getD_lt 0 hk, if_pos h]
theorem pfAt_five {xs : List Int} {k : Nat} (hk : k < xs.length) (h : 0 ≤ xs[k] ∧ xs[k] < (xs.length : Int)) (h5 : xs[k] ∈ xs.take k) : pfAt xs k = 5 := by
  unfold pfAt; rw [getD_lt 0 hk, if_neg (by omega), if_pos h5]
theorem pfAt_zero {xs : List Int} {k : Nat} (hk : k < xs.length) (h : 0 ≤ xs[k] ∧ xs[k] < (xs.length : Int)) (h5 : ¬ xs[k] ∈ xs.take k) : pfAt xs k = 0 := by
  unfold pfAt; rw [getD_lt 0 hk, if_neg (by omega), if_neg h5]
theorem pfAt_more {xs : List Int} {k : Nat} (h : ∀ j, j < k → pfAt xs j = 0) (h0 : pfAt xs k = 0) : ∀ j, j < k + 1 → pfAt xs j = 0 := by
  intro j hj
  by_cases e : j = k
  · subst e; exact h0
  · exact h j (by omega)
theorem permFault_at {xs : List Int} {k : Nat} {c : Int} (h9 : xs.length ≤ 9) (hk : k < xs.length) (h : ∀ j, j < k → pfAt xs j = 0) (hc : pfAt xs k = c) (h0 : c ≠ 0) : permFault xs = c := by
  unfold permFault; rw [if_neg (by omega), firstNZ_at hk h (by rw [hc]; exact h0), hc]
theorem permFault_ok {xs : List Int} (h9 : xs.length ≤ 9) (h : ∀ j, j < xs.length → pfAt xs j = 0) : permFault xs = 0 := by
  unfold permFault; rw [if_neg (by omega), firstNZ_zero h]

set_option maxHeartbeats 400000 in
theorem check_c (A : Option Addr) (cap : Nat) (xs : List Int) (w : World) (h : IsInts w A cap xs) :
    Calls Try.prog 110 #[.slice A xs.length cap] w fun e w' => e = .returned (.int .i64 (permFault xs)) ∧ w = w' := by
  have h1 := h.len
  have h2 := h.cap_le
  go_enter Try.func110, Try.ntmps110
  go_wp2
  · go_ret
    exact ⟨ret_int (by rw [permFault, if_pos (by omega)]), rfl⟩
  · go_loop [3, 4, 10] (fun _ _ i => ∃ k : Nat, k ≤ xs.length ∧ i = .int .i64 k ∧ ∀ j, j < k → pfAt xs j = 0) (fun _ _ i => xs.length - (intOf i).toNat)
    case atStart => exact ⟨0, Nat.zero_le _, rfl, fun j hj => absurd hj (by omega)⟩
    case round =>
      obtain ⟨k, hk, rfl, hz⟩ := hrel
      have HZ := Lib.hid hz
      clear hz
      by_cases hlt : k < xs.length
      · obtain ⟨b, o, rfl, _, hc⟩ := h.row (by intro e; simp [e] at hlt)
        have hck := hc k hlt
        clear hc
        have hbd := h.bd k hlt
        unfold in64 at hbd
        obtain ⟨hb1, hb2⟩ := hbd
        go_wp2_with (go_at_call 97; refine (slices_contains _ _ _ _ _ h k (by omega)).mono ?_; rintro e w' ⟨rfl, rfl⟩)
        · go_ret
          exact ⟨ret_int (permFault_at (by omega) hlt HZ.out (pfAt_one hlt ‹_›) (by omega)).symm, rfl⟩
        · go_ret
          exact ⟨ret_int (permFault_at (by omega) hlt HZ.out (pfAt_five hlt ‹_› ‹_›) (by omega)).symm, rfl⟩
        · go_round
          case rel => exact ⟨k + 1, by omega, by go_num, pfAt_more HZ.out (pfAt_zero hlt ‹_› ‹_›)⟩
          case measure => simp [intOf]; omega
        · go_ret
          exact ⟨ret_int (permFault_at (by omega) hlt HZ.out (pfAt_one hlt (.inl ‹_›)) (by omega)).symm, rfl⟩
      · go_wp2
        go_ret
        obtain rfl : k = xs.length := by omega
        exact ⟨ret_int (permFault_ok (by omega) HZ.out).symm, rfl⟩
end Go.Proofs.Ytgjfpmjllpgadaa
