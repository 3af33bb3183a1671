/- Contracts of functions of this seat, and plain facts for them: used by the claims. No condition of its own. -/
import Derived.Test.YtaadnnhfoihkgaaMine
import Derived.Test.YtaadnnhfoihkgaaShelf
import Derived.Test.YtaadnnhfoihkgaaRows
set_option linter.unusedVariables false
set_option linter.unusedSimpArgs false
namespace Go.Proofs.Ytaadnnhfoihkgaa
open Go.RowKit

theorem info3 : (Try.prog.info? 3).map (fun i => (i.zero, i.size, i.bytes)) = some (some (.int .i64 0), 1, 8) := by kernel_rfl
theorem el_int : Elem1 Try.prog 22 3 (.int .i64 0) 8 := ⟨Try.underlying22, info3, rfl, by decide⟩
theorem info22 : (Try.prog.info? 22).map (fun i => (i.zero, i.size, i.bytes)) = some (some (.slice none 0 0), 1, 24) := by kernel_rfl
theorem el_ints : Elem1 Try.prog 39 22 (.slice none 0 0) 24 := ⟨Try.underlying39, info22, rfl, by decide⟩

theorem slices_contains (A : Option Addr) (cap : Nat) (xs : List Int) (x : Int) (w : World) (h : IsInts w A cap xs) (k : Nat) (hk : k ≤ xs.length) :
    Calls Try.prog 103 #[.slice A k cap, .int .i64 x] w fun e w' => e = .returned (.bool ((xs.take k).contains x)) ∧ w = w' := by
  have h1 := h.len
  have h2 := h.cap_le
  by_cases hx : xs = []
  · subst hx
    obtain rfl : k = 0 := by simpa using hk
    exact (Try.slices_Contains_int_empty A cap x w).mono fun _ _ ⟨a, b⟩ => ⟨a, b.symm⟩
  · obtain ⟨b, o, rfl, _, hc⟩ := h.row hx
    exact (Try.slices_Contains_int b o k cap xs x w hk (by omega) hc).mono fun _ _ ⟨a, b⟩ => ⟨a, b.symm⟩
set_option maxHeartbeats 400000 in
theorem clip_c (A : Option Addr) (n cap : Nat) (w : World) (hn : n ≤ cap) (hc : cap ≤ 9223372036854775807) :
    Calls Try.prog 81 #[.slice A n cap] w fun e w' => e = .returned (.slice A n n) ∧ w = w' := by
  go_enter Try.func81, Try.ntmps81
  go_wp2
  go_ret
  exact ⟨rfl, rfl⟩
theorem idxFrom_mem (x : Int) : ∀ (l : List Int) (i : Nat), x ∈ l → Lib.idxFrom l x i = ((i + l.idxOf x : Nat) : Int)
  | [], _, h => by cases h
  | y :: l, i, h => by
    by_cases e : y = x
    · subst e; simp [Lib.idxFrom]
    · have hx : x ∈ l := by
        rcases List.mem_cons.1 h with h | h
        · exact absurd h.symm e
        · exact h
      rw [List.idxOf_cons]
      simp [Lib.idxFrom, show (y == x) = false by simpa using e]
      rw [idxFrom_mem x l (i + 1) hx]
      omega
theorem index_c (A : Option Addr) (cap : Nat) (xs : List Int) (x : Int) (w : World) (h : IsInts w A cap xs) (hx : x ∈ xs) :
    Calls Try.prog 55 #[.slice A xs.length cap, .int .i64 x] w fun e w' => e = .returned (.int .i64 (xs.idxOf x : Nat)) ∧ w = w' := by
  obtain ⟨b, o, rfl, _, hc⟩ := h.row (by rintro rfl; cases hx)
  have h1 := h.len
  have h2 := h.cap_le
  refine (Try.slices_Index_int b o xs.length cap xs x w (Nat.le_refl _) (by omega) hc).mono fun e w' hh => ?_
  obtain ⟨rfl, rfl⟩ := hh
  refine ⟨ret_int ?_, rfl⟩
  rw [List.take_length]
  unfold Lib.idxOf
  rw [idxFrom_mem x xs 0 hx]
  omega
open Go.Sort in
theorem delete_c (b o cap B : Nat) (xs : List Int) (i : Nat) (w : World) (h : Mine w B (some ⟨b, o, none⟩) cap xs) (hi : i < xs.length) (z y : Int) (hz : z = i) (hy : y = i + 1) :
    Calls Try.prog 109 #[.slice (some ⟨b, o, none⟩) xs.length cap, .int .i64 z, .int .i64 y] w fun e w' => e = .returned (.slice (some ⟨b, o, none⟩) (xs.length - 1) cap) ∧
      Mine w' B (some ⟨b, o, none⟩) cap (xs.eraseIdx i) ∧ w.grownBy w' (some b) := by
  have h1 := h.ints.len
  have h2 := h.ints.cap_le
  have hbd := h.ints.bd
  subst hz
  obtain rfl : y = ((i + 1 : Nat) : Int) := by omega
  refine (Try.slices_Delete_int b o cap i (i + 1) xs w h.holds h1 h2 (by omega) (by omega)).mono fun e w' hh => ?_
  obtain ⟨rfl, q, rfl⟩ := hh
  have e1 : i + 1 - i = 1 := by omega
  have e2 : xs.take i ++ xs.drop (i + 1) = xs.eraseIdx i := (List.eraseIdx_eq_take_drop_succ ..).symm
  rw [e1, e2]
  refine ⟨rfl, h.put (xs.eraseIdx i) [0] (by simp [List.length_eraseIdx_of_lt hi]; omega) (fun j hj => ?_), grown_putRow _ _ _ _ _ _⟩
  rw [getD_lt 0 hj]
  obtain ⟨k, hk, he⟩ := List.mem_iff_getElem.1 ((List.eraseIdx_sublist xs i).subset (List.getElem_mem hj))
  have := hbd k hk
  rw [getD_lt 0 hk, he] at this
  exact this
theorem equal_c (A A' : Option Addr) (cap cap' : Nat) (xs ys : List Int) (w : World) (h : IsInts w A cap xs) (h' : IsInts w A' cap' ys) :
    Calls Try.prog 14 #[.slice A xs.length cap, .slice A' ys.length cap'] w fun e w' => e = .returned (.bool (decide (xs = ys))) ∧ Below w.heap.size w w' := by
  have h1 := h.len
  have h2 := h.cap_le
  have h1' := h'.len
  have h2' := h'.cap_le
  by_cases hl : xs.length = ys.length
  · by_cases hx : xs = []
    · subst hx
      have hy : ys = [] := List.eq_nil_of_length_eq_zero hl.symm
      subst hy
      exact (Try.slices_Equal_int_empty A A' cap 0 cap' w (by omega)).mono fun _ _ ⟨a, b⟩ => ⟨a, b ▸ Below.refl _ _⟩
    · have hy : ys ≠ [] := by rintro rfl; exact hx (List.eq_nil_of_length_eq_zero hl)
      obtain ⟨b, o, rfl, _, hc⟩ := h.row hx
      obtain ⟨b', o', rfl, _, hc'⟩ := h'.row hy
      refine (Try.slices_Equal_int b o xs.length cap b' o' ys.length cap' xs ys w (Nat.le_refl _) (Nat.le_refl _) (by omega) (by omega) hc hc').mono fun e w' hh => ?_
      obtain ⟨rfl, q, rfl⟩ := hh
      refine ⟨ret_bool ?_, below_drewN (Below.refl _ _) q⟩
      rw [List.take_length, List.take_length]
      exact Bool.eq_iff_iff.2 (by simp)
  · refine (Try.slices_Equal_int_lens A A' xs.length cap ys.length cap' w hl).mono fun e w' hh => ?_
    obtain ⟨rfl, rfl⟩ := hh
    exact ⟨ret_bool (by symm; exact decide_eq_false (fun e => hl (by rw [e]))), Below.refl _ _⟩
open Go.Sort in
theorem reverse_c (A : Option Addr) (cap B : Nat) (xs : List Int) (w : World) (h : Mine w B A cap xs) :
    Calls Try.prog 127 #[.slice A xs.length cap] w fun e w' => e = .returned (.tuple #[]) ∧ Mine w' B A cap xs.reverse ∧ w.grownBy w' (blkOf A) := by
  have h1 := h.ints.len
  have h2 := h.ints.cap_le
  have hbd := h.ints.bd
  by_cases hx : xs = []
  · subst hx
    refine (Try.slices_Reverse_int_empty A cap w).mono fun e w' hh => ?_
    obtain ⟨rfl, rfl⟩ := hh
    exact ⟨rfl, h, World.grownBy.but (World.grownBy.refl _ _) _⟩
  · obtain ⟨b, o, rfl, _, hc⟩ := h.ints.row hx
    refine (Try.slices_Reverse_int b o cap xs w h.holds (by omega)).mono fun e w' hh => ?_
    obtain ⟨rfl, q, rfl⟩ := hh
    have hp := h.put (q := q) xs.reverse [] (by simp) (fun i hi => by
      rw [getD_lt 0 hi]
      obtain ⟨k, hk, he⟩ := List.mem_iff_getElem.1 (List.mem_reverse.1 (List.getElem_mem hi))
      have := hbd k hk
      rw [getD_lt 0 hk, he] at this
      exact this)
    rw [List.append_nil] at hp
    exact ⟨rfl, hp, grown_putRow _ _ _ _ _ _⟩
end Go.Proofs.Ytaadnnhfoihkgaa
