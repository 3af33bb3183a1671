/- Contracts of functions of this seat, and plain facts for them: used by the claims. No condition of its own. -/
import Derived.Test.YtmfghdjnojbalaaMine
import Derived.Test.YtmfghdjnojbalaaShelf
import Derived.Test.YtmfghdjnojbalaaCheck
set_option linter.unusedVariables false
namespace Go.Proofs.Ytmfghdjnojbalaa
open Go.RowKit

theorem idxFrom_mem (x : Int) : ∀ (l : List Int) (i : Nat), x ∈ l → Lib.idxFrom l x i = ((i + l.idxOf x : Nat) : Int)
  | [], _, h => by cases h
  | y :: l, i, h => by
    by_cases e : y = x
    · subst e; simp [Lib.idxFrom]
    · have hx : x ∈ l := by
        rcases List.mem_cons.1 h with h | h
        · exact absurd h.symm e
        · exact h
      rw [List.idxOf_cons]
      simp [Lib.idxFrom, show (y == x) = false by simpa using e]
      rw [idxFrom_mem x l (i + 1) hx]
      omega
theorem index_c (A : Option Addr) (cap : Nat) (xs : List Int) (x : Int) (w : World) (h : IsInts w A cap xs) (hx : x ∈ xs) :
    Calls Try.prog 50 #[.slice A xs.length cap, .int .i64 x] w fun e w' => e = .returned (.int .i64 (xs.idxOf x : Nat)) ∧ w = w' := by
  obtain ⟨b, o, rfl, _, hc⟩ := h.row (by rintro rfl; cases hx)
  have h1 := h.len
  have h2 := h.cap_le
  refine (Try.slices_Index_int b o xs.length cap xs x w (Nat.le_refl _) (by omega) hc).mono fun e w' hh => ?_
  obtain ⟨rfl, rfl⟩ := hh
  refine ⟨ret_int ?_, rfl⟩
  rw [List.take_length]
  unfold Lib.idxOf
  rw [idxFrom_mem x xs 0 hx]
  omega
open Go.Sort in
theorem delete_c (b o cap B : Nat) (xs : List Int) (i : Nat) (w : World) (h : Mine w B (some ⟨b, o, none⟩) cap xs) (hi : i < xs.length) (z y : Int) (hz : z = i) (hy : y = i + 1) :
    Calls Try.prog 47 #[.slice (some ⟨b, o, none⟩) xs.length cap, .int .i64 z, .int .i64 y] w fun e w' => e = .returned (.slice (some ⟨b, o, none⟩) (xs.length - 1) cap) ∧
      Mine w' B (some ⟨b, o, none⟩) cap (xs.eraseIdx i) ∧ w.grownBy w' (some b) := by
  have h1 := h.ints.len
  have h2 := h.ints.cap_le
  have hbd := h.ints.bd
  subst hz
  obtain rfl : y = ((i + 1 : Nat) : Int) := by omega
  refine (Try.slices_Delete_int b o cap i (i + 1) xs w h.holds h1 h2 (by omega) (by omega)).mono fun e w' hh => ?_
  obtain ⟨rfl, q, rfl⟩ := hh
  have e1 : i + 1 - i = 1 := by omega
  have e2 : xs.take i ++ xs.drop (i + 1) = xs.eraseIdx i := (List.eraseIdx_eq_take_drop_succ ..).symm
  rw [e1, e2]
  refine ⟨rfl, h.put (xs.eraseIdx i) [0] (by simp [List.length_eraseIdx_of_lt hi]; omega) (fun j hj => ?_), grown_putRow _ _ _ _ _ _⟩
  rw [getD_lt 0 hj]
  obtain ⟨k, hk, he⟩ := List.mem_iff_getElem.1 ((List.eraseIdx_sublist xs i).subset (List.getElem_mem hj))
  have := hbd k hk
  rw [getD_lt 0 hk, he] at this
  exact this
end Go.Proofs.Ytmfghdjnojbalaa
