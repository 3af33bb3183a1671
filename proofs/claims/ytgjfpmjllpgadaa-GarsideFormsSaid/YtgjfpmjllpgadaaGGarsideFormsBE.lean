/-
  Rows of ints that the call may write: 'Mine'. Nothing of the program is here.
-/
import Derived.Test.YtgjfpmjllpgadaaGGarsideFormsBD
import Derived.Sort.Row
import Derived.Shelf.Small.Bits
import Derived.Shelf.Strconv.Itoa0
import Derived.Shelf.Bits.Mul64
import Derived.Shelf.Slices.Turned
import Derived.Shelf.Slices.Reverse
import Derived.Shelf.Slices.Equal
import Derived.Ground.Names2Prog
import Derived.Shelf.Slices.Clone
import Derived.Shelf.Slices.SearchI
import Derived.Shelf.Slices.Delete
import Derived.Shelf.Slices.Cells
import Derived.Shelf.Slices.Empties
import Derived.Shelf.Slices.Empties2
import Derived.Ground.SlgnProg
import Derived.Shelf.SlicesE.Clone
import Derived.Test.YtgjfpmjllpgadaaProg
import Derived.Test.YtgjfpmjllpgadaaRows
import Derived.Test.YtgjfpmjllpgadaaGGarsideFormsAD
import Derived.Test.YtgjfpmjllpgadaaGGarsideFormsAA
import Derived.Test.YtgjfpmjllpgadaaGGarsideFormsAC
import Derived.Deep.QuietTactic
import Derived.BigQuiet
set_option linter.unusedVariables false
set_option linter.unusedSimpArgs false
namespace Go.Proofs.Ytgjfpmjllpgadaa
open Go.RowKit

/-- '.slice A xs.length cap' reads as xs, lies in a block from B on, and may be written. -/
structure Mine (w : World) (B : Nat) (A : Option Addr) (cap : Nat) (xs : List Int) : Prop where
  ints : IsInts w A cap xs
  low : ∀ b o, A = some ⟨b, o, none⟩ → B ≤ b ∧ b < w.heap.size
  free : ∀ b o, A = some ⟨b, o, none⟩ → ∀ i, i < xs.length → w.frozen? ⟨b, o + i, none⟩ = false

def blkOf (A : Option Addr) : Option Nat := A.map (·.block)

theorem Mine.kept {w w' : World} {B : Nat} {A : Option Addr} {cap : Nat} {xs : List Int} {row : Option Nat} (h : Mine w B A cap xs) (hg : w.grownBy w' row) (hne : ∀ b o, A = some ⟨b, o, none⟩ → row ≠ some b) : Mine w' B A cap xs :=
  ⟨h.ints.kept hg hne, fun b o hA => ⟨(h.low b o hA).1, Nat.lt_of_lt_of_le (h.low b o hA).2 hg.size⟩, fun b o hA i hi => (World.frozen?_of_block (a := ⟨b, o + i, none⟩) (hg.block b (h.low b o hA).2 (fun e => hne b o hA e.symm))).trans (h.free b o hA i hi)⟩
theorem Mine.alloc {w : World} {B : Nat} {A : Option Addr} {cap : Nat} {xs : List Int} (h : Mine w B A cap xs) (o : Obj) : Mine (w.alloc o) B A cap xs := h.kept (World.grownBy_alloc _ _ none) (by simp)
theorem Mine.below {w w' : World} {B C : Nat} {A : Option Addr} {cap : Nat} {xs : List Int} (h : Mine w B A cap xs) (hb : Below C w w') (hC : w.heap.size ≤ C) : Mine w' B A cap xs :=
  h.kept (row := none) ⟨hb.os, hb.tape, hb.output, hb.size, fun k hk _ => hb.block k (by omega)⟩ (by simp)
theorem Mine.mono {w : World} {B B' : Nat} {A : Option Addr} {cap : Nat} {xs : List Int} (h : Mine w B A cap xs) (hB : B' ≤ B) : Mine w B' A cap xs := ⟨h.ints, fun b o hA => ⟨Nat.le_trans hB (h.low b o hA).1, (h.low b o hA).2⟩, h.free⟩

open Go.Sort in
theorem Mine.holds {w : World} {B b o cap : Nat} {xs : List Int} (h : Mine w B (some ⟨b, o, none⟩) cap xs) : Holds (Value.int .i64) w b o xs.toArray := by
  intro j hj
  have hj' : j < xs.length := by simpa using hj
  obtain ⟨b', o', e, _, hc⟩ := h.ints.row (by rintro rfl; simp at hj')
  cases e
  refine ⟨?_, h.free b o rfl j hj'⟩
  rw [hc j hj', getD_lt 0 hj']
  simp [hj']
open Go.Sort in
/-- Behind a store of a whole row of the same length or a longer one. -/
theorem Mine.put {w : World} {B b o cap q : Nat} {xs : List Int} (h : Mine w B (some ⟨b, o, none⟩) cap xs) (ys zs : List Int) (hl : (ys ++ zs).length = xs.length) (hbd : ∀ i, i < ys.length → in64 (ys.getD i 0)) :
    Mine (putRow (Value.int .i64) (Sort.ahead w q) b o (ys ++ zs).toArray) B (some ⟨b, o, none⟩) cap ys := by
  have hH := h.holds
  have h1 := h.ints.len
  have hlen : ys.length ≤ xs.length := by simp at hl; omega
  refine ⟨⟨by omega, h.ints.cap_le, hbd, fun hy => ⟨b, o, rfl, ?_, fun i hi => ?_⟩⟩, fun b' o' hA => ?_, fun b' o' hA i hi => ?_⟩
  · simpa using (h.low b o rfl).2
  · rw [cell?_putRow (Value.int .i64) (Sort.ahead w q) b o xs.toArray (ys ++ zs).toArray hH (by simpa using hl) i (by simp; omega)]
    rw [getD_lt 0 hi]
    simp [List.getElem_append_left hi, show i < ys.length + zs.length by omega]
  · cases hA
    have := h.low b o rfl
    exact ⟨this.1, by simpa using this.2⟩
  · cases hA
    simpa using h.free b o rfl i (by omega)

end Go.Proofs.Ytgjfpmjllpgadaa

/- The contracts of the library functions that this seat calls, laid by the shelf at its translation. No condition of its own. -/
namespace Go.Proofs
open Go.Shelf
def Try.lays128_ren : Go.Shelf.Ren := ⟨fun | 128 => 160 | n => n, fun | 51 => 133 | 3 => 3 | 4 => 4 | 46 => 127 | 5 => 5 | 9 => 9 | n => n, fun | n => n⟩
def Try.lays125_ren : Go.Shelf.Ren := ⟨fun | 125 => 146 | 128 => 160 | 129 => 161 | n => n, fun | 46 => 127 | 3 => 3 | 51 => 133 | 53 => 136 | 4 => 4 | 5 => 5 | 9 => 9 | n => n, fun | n => n⟩
def Try.lays129_ren : Go.Shelf.Ren := ⟨fun | 129 => 161 | n => n, fun | 53 => 136 | 3 => 3 | 4 => 4 | 46 => 127 | 5 => 5 | 9 => 9 | n => n, fun | n => n⟩
def Try.lays264_ren : Go.Shelf.Ren := ⟨fun | 264 => 150 | n => n, fun | 53 => 136 | 46 => 127 | n => n, fun | n => n⟩
def Try.lays212_ren : Go.Shelf.Ren := ⟨fun | 212 => 138 | 263 => 149 | 264 => 150 | n => n, fun | 46 => 127 | 51 => 133 | 146 => 134 | 53 => 136 | 148 => 137 | n => n, fun | n => n⟩
theorem Try.lays212 : Go.Proofs.Lays.n212 Try.prog Try.lays212_ren := {
  mixed := by kernel_rfl
  f212 := Try.func138.trans (congrArg some (by kernel_rfl))
  f263 := Try.func149.trans (congrArg some (by kernel_rfl))
  f264 := Try.func150.trans (congrArg some (by kernel_rfl))
  t46 := Try.underlying127
  a46 := Try.isAgg127
  z46 := Try.sizeOf127
  v46 := Try.zeroValue127
  t51 := Try.underlying133
  a51 := Try.isAgg133
  z51 := Try.sizeOf133
  v51 := Try.zeroValue133
  t53 := Try.underlying136
  a53 := Try.isAgg136
  z53 := Try.sizeOf136
  v53 := Try.zeroValue136
  t146 := Try.underlying134
  a146 := Try.isAgg134
  z146 := Try.sizeOf134
  v146 := Try.zeroValue134
  t148 := Try.underlying137
  a148 := Try.isAgg137
  z148 := Try.sizeOf137
  v148 := Try.zeroValue137 }
open Go.RowKit Go.Lib in
theorem Try.bits_Mul (x y : Nat) (hx : x < 18446744073709551616) (hy : y < 18446744073709551616) (w : World) :
    Calls Try.prog 138 #[.int .u64 x, .int .u64 y] w fun e w' => e = .returned (.tuple #[.int .u64 ((x * y / 18446744073709551616 : Nat) : Int), .int .u64 ((x * y % 18446744073709551616 : Nat) : Int)]) ∧ w' = w := Any.bits_Mul Try.lays212 x y hx hy w
def Try.lays108_ren : Go.Shelf.Ren := ⟨fun | 108 => 98 | n => n, fun | 28 => 22 | 3 => 3 | 0 => 0 | 4 => 4 | n => n, fun | n => n⟩
theorem Try.lays108 : Go.Proofs.Lays.n108 Try.prog Try.lays108_ren := {
  mixed := by kernel_rfl
  f108 := Try.func98.trans (congrArg some (by kernel_rfl))
  t0 := Try.underlying0
  a0 := Try.isAgg0
  z0 := Try.sizeOf0
  v0 := Try.zeroValue0
  t3 := Try.underlying3
  a3 := Try.isAgg3
  z3 := Try.sizeOf3
  v3 := Try.zeroValue3
  t4 := Try.underlying4
  a4 := Try.isAgg4
  z4 := Try.sizeOf4
  v4 := Try.zeroValue4
  t28 := Try.underlying22
  a28 := Try.isAgg22
  z28 := Try.sizeOf22
  v28 := Try.zeroValue22 }
open Go.Lib in
theorem Try.slices_Index_int (b off n c : Nat) (zs : List Int) (x : Int) (w : World) (hz : n ≤ zs.length) (hbig : n ≤ 9223372036854775807) (hc : ∀ j, j < zs.length → w.cell? ⟨b, off + j, none⟩ = some (.int .i64 (zs.getD j 0))) :
    Calls Try.prog 98 #[.slice (some ⟨b, off, none⟩) n c, .int .i64 x] w fun e w' => e = .returned (.int .i64 (Lib.idxOf (zs.take n) x)) ∧ w' = w := Any.slices_Index_int Try.lays108 b off n c zs x w hz hbig hc
def Try.lays107_ren : Go.Shelf.Ren := ⟨fun | 107 => 97 | 108 => 98 | n => n, fun | 28 => 22 | 3 => 3 | 4 => 4 | 0 => 0 | n => n, fun | n => n⟩
def Try.lays112_ren : Go.Shelf.Ren := ⟨fun | 112 => 136 | n => n, fun | 28 => 22 | 3 => 3 | 4 => 4 | 0 => 0 | n => n, fun | n => n⟩
def Try.lays111_ren : Go.Shelf.Ren := ⟨fun | 111 => 20 | n => n, fun | 28 => 22 | 3 => 3 | 4 => 4 | 0 => 0 | n => n, fun | n => n⟩
def Try.laysNm215_ren : Go.Shelf.Ren := ⟨fun | 15 => 76 | n => n, fun | 22 => 22 | 3 => 3 | 4 => 4 | n => n, fun | n => n⟩
def Try.laysNm237_ren : Go.Shelf.Ren := ⟨fun | 37 => 170 | n => n, fun | 3 => 3 | 4 => 4 | n => n, fun | n => n⟩
def Try.laysNm231_ren : Go.Shelf.Ren := ⟨fun | 31 => 157 | 37 => 170 | n => n, fun | 3 => 3 | 4 => 4 | n => n, fun | n => n⟩
def Try.laysNm223_ren : Go.Shelf.Ren := ⟨fun | 23 => 129 | n => n, fun | 22 => 22 | 3 => 3 | 4 => 4 | 0 => 0 | n => n, fun | n => n⟩
theorem Try.laysNm223 : Go.Proofs.Lays2.n23 Try.prog Try.laysNm223_ren := {
  mixed := by kernel_rfl
  f23 := Try.func129.trans (congrArg some (by kernel_rfl))
  t0 := Try.underlying0
  a0 := Try.isAgg0
  z0 := Try.sizeOf0
  v0 := Try.zeroValue0
  t3 := Try.underlying3
  a3 := Try.isAgg3
  z3 := Try.sizeOf3
  v3 := Try.zeroValue3
  t4 := Try.underlying4
  a4 := Try.isAgg4
  z4 := Try.sizeOf4
  v4 := Try.zeroValue4
  t22 := Try.underlying22
  a22 := Try.isAgg22
  z22 := Try.sizeOf22
  v22 := Try.zeroValue22
  i3 := by kernel_rfl }
open Go.RowKit Go.Lib Go.Sort in
theorem Try.slices_Delete_int (blk off cap i j : Nat) (zs : List Int) (w : World) (hH : Holds (Value.int .i64) w blk off zs.toArray) (hcap : zs.length ≤ cap) (hm : cap ≤ 9223372036854775807) (hij : i ≤ j) (hj : j ≤ zs.length) :
    Calls Try.prog 129 #[.slice (some ⟨blk, off, none⟩) zs.length cap, .int .i64 i, .int .i64 j] w fun e w' => e = .returned (.slice (some ⟨blk, off, none⟩) (zs.length - (j - i)) cap) ∧ ∃ q, w' = putRow (Value.int .i64) (Sort.ahead w q) blk off (zs.take i ++ zs.drop j ++ List.replicate (j - i) 0).toArray := Any.slices_Delete_int Try.laysNm223 blk off cap i j zs w hH hcap hm hij hj
def Try.laysSlE041_f76_ren : Go.Shelf.Ren := ⟨fun | 41 => 76 | n => n, fun | 22 => 22 | 23 => 3 | 4 => 4 | n => n, fun | n => n⟩
end Go.Proofs

/- Contracts of functions of this seat, and plain facts for them: used by the claims. No condition of its own. -/
set_option linter.unusedVariables false
set_option linter.unusedSimpArgs false
namespace Go.Proofs.Ytgjfpmjllpgadaa
open Go.RowKit

theorem info3 : (Try.prog.info? 3).map (fun i => (i.zero, i.size, i.bytes)) = some (some (.int .i64 0), 1, 8) := by kernel_rfl
theorem idxFrom_mem (x : Int) : ∀ (l : List Int) (i : Nat), x ∈ l → Lib.idxFrom l x i = ((i + l.idxOf x : Nat) : Int)
  | [], _, h => by cases h
  | y :: l, i, h => by
    by_cases e : y = x
    · subst e; simp [Lib.idxFrom]
    · have hx : x ∈ l := by
        rcases List.mem_cons.1 h with h | h
        · exact absurd h.symm e
        · exact h
      rw [List.idxOf_cons]
      simp [Lib.idxFrom, show (y == x) = false by simpa using e]
      rw [idxFrom_mem x l (i + 1) hx]
      omega
theorem index_c (A : Option Addr) (cap : Nat) (xs : List Int) (x : Int) (w : World) (h : IsInts w A cap xs) (hx : x ∈ xs) :
    Calls Try.prog 98 #[.slice A xs.length cap, .int .i64 x] w fun e w' => e = .returned (.int .i64 (xs.idxOf x : Nat)) ∧ w = w' := by
  obtain ⟨b, o, rfl, _, hc⟩ := h.row (by rintro rfl; cases hx)
  have h1 := h.len
  have h2 := h.cap_le
  refine (Try.slices_Index_int b o xs.length cap xs x w (Nat.le_refl _) (by omega) hc).mono fun e w' hh => ?_
  obtain ⟨rfl, rfl⟩ := hh
  refine ⟨ret_int ?_, rfl⟩
  rw [List.take_length]
  unfold Lib.idxOf
  rw [idxFrom_mem x xs 0 hx]
  omega
end Go.Proofs.Ytgjfpmjllpgadaa

/- Contracts of functions of this seat, and plain facts for them: used by the claims. No condition of its own. -/
set_option linter.unusedVariables false
set_option linter.unusedSimpArgs false
namespace Go.Proofs.Ytgjfpmjllpgadaa
open Go.RowKit

/-- The fault of the element at k. -/
def pfAt (xs : List Int) (k : Nat) : Int :=
  if xs.getD k 0 < 0 ∨ (xs.length : Int) ≤ xs.getD k 0 then 1 else if xs.getD k 0 ∈ xs.take k then 5 else 0
def permFault (xs : List Int) : Int := if 9 < xs.length then 2 else firstNZ (pfAt xs) xs.length

theorem pfAt_one {xs : List Int} {k : Nat} (hk : k < xs.length) (h : xs[k] < 0 ∨ (xs.length : Int) ≤ xs[k]) : pfAt xs k = 1 := by
  unfold pfAt; rw [getD_lt 0 hk, if_pos h]
theorem pfAt_five {xs : List Int} {k : Nat} (hk : k < xs.length) (h : 0 ≤ xs[k] ∧ xs[k] < (xs.length : Int)) (h5 : xs[k] ∈ xs.take k) : pfAt xs k = 5 := by
  unfold pfAt; rw [getD_lt 0 hk, if_neg (by omega), if_pos h5]
theorem pfAt_zero {xs : List Int} {k : Nat} (hk : k < xs.length) (h : 0 ≤ xs[k] ∧ xs[k] < (xs.length : Int)) (h5 : ¬ xs[k] ∈ xs.take k) : pfAt xs k = 0 := by
  unfold pfAt; rw [getD_lt 0 hk, if_neg (by omega), if_neg h5]
theorem pfAt_more {xs : List Int} {k : Nat} (h : ∀ j, j < k → pfAt xs j = 0) (h0 : pfAt xs k = 0) : ∀ j, j < k + 1 → pfAt xs j = 0 := by
  intro j hj
  by_cases e : j = k
  · subst e; exact h0
  · exact h j (by omega)
theorem permFault_at {xs : List Int} {k : Nat} {c : Int} (h9 : xs.length ≤ 9) (hk : k < xs.length) (h : ∀ j, j < k → pfAt xs j = 0) (hc : pfAt xs k = c) (h0 : c ≠ 0) : permFault xs = c := by
  unfold permFault; rw [if_neg (by omega), firstNZ_at hk h (by rw [hc]; exact h0), hc]
theorem permFault_ok {xs : List Int} (h9 : xs.length ≤ 9) (h : ∀ j, j < xs.length → pfAt xs j = 0) : permFault xs = 0 := by
  unfold permFault; rw [if_neg (by omega), firstNZ_zero h]

end Go.Proofs.Ytgjfpmjllpgadaa

/- Contracts of functions of this seat, and plain facts for them: used by the claims. No condition of its own. -/
set_option linter.unusedVariables false
set_option linter.unusedSimpArgs false
namespace Go.Proofs.Ytgjfpmjllpgadaa
open Go.RowKit

end Go.Proofs.Ytgjfpmjllpgadaa

/- Contracts of functions of this seat, and plain facts for them: used by the claims. No condition of its own. -/
set_option linter.unusedVariables false
set_option linter.unusedSimpArgs false
namespace Go.Proofs.Ytgjfpmjllpgadaa
open Go.RowKit

theorem permFault_range {xs : List Int} (h : permFault xs = 0) : xs.length ≤ 9 ∧ InRange xs ∧ xs.Nodup := by
  unfold permFault at h
  split at h
  · cases h
  · rename_i h9
    rw [firstNZ_zero_iff] at h
    refine ⟨by omega, fun i hi => ?_, ?_⟩
    · have := h i hi
      unfold pfAt at this
      split at this
      · cases this
      · omega
    · refine List.pairwise_iff_getElem.2 fun i j hi hj hij e => ?_
      have := h j hj
      unfold pfAt at this
      split at this
      · cases this
      · split at this
        · cases this
        · rename_i hm
          apply hm
          rw [getD_lt 0 hj, ← e]
          exact List.mem_iff_getElem.2 ⟨i, by simp; omega, by simp⟩

end Go.Proofs.Ytgjfpmjllpgadaa

/-
  Ranks of permutations: the program's way and the reference's. Plain facts: nothing of the program is here.
-/
set_option linter.unusedVariables false
set_option linter.unusedSimpArgs false
namespace Go.Proofs.Ytgjfpmjllpgadaa

def idRow (n : Nat) : List Int := (List.range n).map (fun i : Nat => (i : Int))
/-- The reference's loop: what is left, and the number so far. -/
def numGo : List Int → List Int → Nat → Nat
  | [], _, n => n
  | x :: xs, rest, n => numGo xs (rest.erase x) (n * rest.length + rest.idxOf x)
def number (xs : List Int) : Nat := numGo xs (idRow xs.length) 0

def smaller (xs : List Int) (k j : Nat) : Nat := (((xs.drop (k + 1)).take j).filter (fun y => y < xs.getD k 0)).length
def rk (xs : List Int) : Nat → Nat
  | 0 => 0
  | k + 1 => rk xs k * (xs.length - k) + smaller xs k (xs.length - (k + 1))
def rank (xs : List Int) : Int := rk xs xs.length

/-! ### Unrank -/
def fac : Nat → Nat
  | 0 => 1
  | n + 1 => (n + 1) * fac n
def ur : Nat → List Int → Nat → List Int
  | 0, _, _ => []
  | f + 1, l, r => l.getD (r / fac f) 0 :: ur f (l.eraseIdx (r / fac f)) (r % fac f)
end Go.Proofs.Ytgjfpmjllpgadaa

/- Contracts of functions of this seat, and plain facts for them: used by the claims. No condition of its own. -/
set_option linter.unusedVariables false
set_option linter.unusedSimpArgs false
namespace Go.Proofs.Ytgjfpmjllpgadaa
open Go.RowKit

end Go.Proofs.Ytgjfpmjllpgadaa

/- Contracts of functions of this seat, and plain facts for them: used by the claims. No condition of its own. -/
set_option linter.unusedVariables false
set_option linter.unusedSimpArgs false
namespace Go.Proofs.Ytgjfpmjllpgadaa
open Go.RowKit

end Go.Proofs.Ytgjfpmjllpgadaa
