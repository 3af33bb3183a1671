/- Contracts of functions of this seat, and plain facts for them: used by the claims. No condition of its own. -/
import Derived.Test.YthkbcgggbgkfmaaMine
import Derived.Test.YthkbcgggbgkfmaaShelf
import Derived.Test.YthkbcgggbgkfmaaRows
set_option linter.unusedVariables false
namespace Go.Proofs.Ythkbcgggbgkfmaa
open Go.RowKit

theorem info3 : (Try.prog.info? 3).map (fun i => (i.zero, i.size, i.bytes)) = some (some (.int .i64 0), 1, 8) := by kernel_rfl
theorem el_int : Elem1 Try.prog 22 3 (.int .i64 0) 8 := ⟨Try.underlying22, info3, rfl, by decide⟩

set_option maxHeartbeats 400000 in
theorem clip_c (A : Option Addr) (n cap : Nat) (w : World) (hn : n ≤ cap) (hc : cap ≤ 9223372036854775807) :
    Calls Try.prog 29 #[.slice A n cap] w fun e w' => e = .returned (.slice A n n) ∧ w = w' := by
  go_enter Try.func29, Try.ntmps29
  go_wp2
  go_ret
  exact ⟨rfl, rfl⟩
theorem idxFrom_mem (x : Int) : ∀ (l : List Int) (i : Nat), x ∈ l → Lib.idxFrom l x i = ((i + l.idxOf x : Nat) : Int)
  | [], _, h => by cases h
  | y :: l, i, h => by
    by_cases e : y = x
    · subst e; simp [Lib.idxFrom]
    · have hx : x ∈ l := by
        rcases List.mem_cons.1 h with h | h
        · exact absurd h.symm e
        · exact h
      rw [List.idxOf_cons]
      simp [Lib.idxFrom, show (y == x) = false by simpa using e]
      rw [idxFrom_mem x l (i + 1) hx]
      omega
theorem equal_c (A A' : Option Addr) (cap cap' : Nat) (xs ys : List Int) (w : World) (h : IsInts w A cap xs) (h' : IsInts w A' cap' ys) :
    Calls Try.prog 15 #[.slice A xs.length cap, .slice A' ys.length cap'] w fun e w' => e = .returned (.bool (decide (xs = ys))) ∧ Below w.heap.size w w' := by
  have h1 := h.len
  have h2 := h.cap_le
  have h1' := h'.len
  have h2' := h'.cap_le
  by_cases hl : xs.length = ys.length
  · by_cases hx : xs = []
    · subst hx
      have hy : ys = [] := List.eq_nil_of_length_eq_zero hl.symm
      subst hy
      exact (Try.slices_Equal_int_empty A A' cap 0 cap' w (by omega)).mono fun _ _ ⟨a, b⟩ => ⟨a, b ▸ Below.refl _ _⟩
    · have hy : ys ≠ [] := by rintro rfl; exact hx (List.eq_nil_of_length_eq_zero hl)
      obtain ⟨b, o, rfl, _, hc⟩ := h.row hx
      obtain ⟨b', o', rfl, _, hc'⟩ := h'.row hy
      refine (Try.slices_Equal_int b o xs.length cap b' o' ys.length cap' xs ys w (Nat.le_refl _) (Nat.le_refl _) (by omega) (by omega) hc hc').mono fun e w' hh => ?_
      obtain ⟨rfl, q, rfl⟩ := hh
      refine ⟨ret_bool ?_, below_drewN (Below.refl _ _) q⟩
      rw [List.take_length, List.take_length]
      exact Bool.eq_iff_iff.2 (by simp)
  · refine (Try.slices_Equal_int_lens A A' xs.length cap ys.length cap' w hl).mono fun e w' hh => ?_
    obtain ⟨rfl, rfl⟩ := hh
    exact ⟨ret_bool (by symm; exact decide_eq_false (fun e => hl (by rw [e]))), Below.refl _ _⟩
open Go.Sort in
theorem reverse_c (A : Option Addr) (cap B : Nat) (xs : List Int) (w : World) (h : Mine w B A cap xs) :
    Calls Try.prog 28 #[.slice A xs.length cap] w fun e w' => e = .returned (.tuple #[]) ∧ Mine w' B A cap xs.reverse ∧ w.grownBy w' (blkOf A) := by
  have h1 := h.ints.len
  have h2 := h.ints.cap_le
  have hbd := h.ints.bd
  by_cases hx : xs = []
  · subst hx
    refine (Try.slices_Reverse_int_empty A cap w).mono fun e w' hh => ?_
    obtain ⟨rfl, rfl⟩ := hh
    exact ⟨rfl, h, World.grownBy.but (World.grownBy.refl _ _) _⟩
  · obtain ⟨b, o, rfl, _, hc⟩ := h.ints.row hx
    refine (Try.slices_Reverse_int b o cap xs w h.holds (by omega)).mono fun e w' hh => ?_
    obtain ⟨rfl, q, rfl⟩ := hh
    have hp := h.put (q := q) xs.reverse [] (by simp) (fun i hi => by
      rw [getD_lt 0 hi]
      obtain ⟨k, hk, he⟩ := List.mem_iff_getElem.1 (List.mem_reverse.1 (List.getElem_mem hi))
      have := hbd k hk
      rw [getD_lt 0 hk, he] at this
      exact this)
    rw [List.append_nil] at hp
    exact ⟨rfl, hp, grown_putRow _ _ _ _ _ _⟩
end Go.Proofs.Ythkbcgggbgkfmaa
