/- Facts and contracts that the claim uses. No condition of its own. -/
import Derived.Test.YtkmkcbkfakoomaaGRingRowsBH
import Derived.Test.YtkmkcbkfakoomaaGRingRowsBI
import Derived.Test.YtkmkcbkfakoomaaRows
import Derived.Test.YtkmkcbkfakoomaaGRingRowsAF
import Derived.Test.YtkmkcbkfakoomaaGRingRowsAA
import Derived.Test.YtkmkcbkfakoomaaGRingRowsBG
import Derived.Deep.QuietTactic
import Derived.BigQuiet
set_option linter.unusedVariables false
set_option linter.unusedSimpArgs false
namespace Go.Proofs.Ytkmkcbkfakoomaa
open Go.RowKit
theorem info3 : (Try.prog.info? 3).map (fun i => (i.zero, i.size, i.bytes)) = some (some (.int .i64 0), 1, 8) := by kernel_rfl
theorem slices_contains (A : Option Addr) (cap : Nat) (xs : List Int) (x : Int) (w : World) (h : IsInts w A cap xs) (k : Nat) (hk : k ≤ xs.length) :
    Calls Try.prog 24 #[.slice A k cap, .int .i64 x] w fun e w' => e = .returned (.bool ((xs.take k).contains x)) ∧ w = w' := by
  have h1 := h.len
  have h2 := h.cap_le
  by_cases hx : xs = []
  · subst hx
    obtain rfl : k = 0 := by simpa using hk
    exact (Try.slices_Contains_int_empty A cap x w).mono fun _ _ ⟨a, b⟩ => ⟨a, b.symm⟩
  · obtain ⟨b, o, rfl, _, hc⟩ := h.row hx
    exact (Try.slices_Contains_int b o k cap xs x w hk (by omega) hc).mono fun _ _ ⟨a, b⟩ => ⟨a, b.symm⟩
theorem idxFrom_mem (x : Int) : ∀ (l : List Int) (i : Nat), x ∈ l → Lib.idxFrom l x i = ((i + l.idxOf x : Nat) : Int)
  | [], _, h => by cases h
  | y :: l, i, h => by
    by_cases e : y = x
    · subst e; simp [Lib.idxFrom]
    · have hx : x ∈ l := by
        rcases List.mem_cons.1 h with h | h
        · exact absurd h.symm e
        · exact h
      rw [List.idxOf_cons]
      simp [Lib.idxFrom, show (y == x) = false by simpa using e]
      rw [idxFrom_mem x l (i + 1) hx]
      omega
theorem index_c (A : Option Addr) (cap : Nat) (xs : List Int) (x : Int) (w : World) (h : IsInts w A cap xs) (hx : x ∈ xs) :
    Calls Try.prog 30 #[.slice A xs.length cap, .int .i64 x] w fun e w' => e = .returned (.int .i64 (xs.idxOf x : Nat)) ∧ w = w' := by
  obtain ⟨b, o, rfl, _, hc⟩ := h.row (by rintro rfl; cases hx)
  have h1 := h.len
  have h2 := h.cap_le
  refine (Try.slices_Index_int b o xs.length cap xs x w (Nat.le_refl _) (by omega) hc).mono fun e w' hh => ?_
  obtain ⟨rfl, rfl⟩ := hh
  refine ⟨ret_int ?_, rfl⟩
  rw [List.take_length]
  unfold Lib.idxOf
  rw [idxFrom_mem x xs 0 hx]
  omega
open Go.Sort in
theorem delete_c (b o cap B : Nat) (xs : List Int) (i : Nat) (w : World) (h : Mine w B (some ⟨b, o, none⟩) cap xs) (hi : i < xs.length) (z y : Int) (hz : z = i) (hy : y = i + 1) :
    Calls Try.prog 31 #[.slice (some ⟨b, o, none⟩) xs.length cap, .int .i64 z, .int .i64 y] w fun e w' => e = .returned (.slice (some ⟨b, o, none⟩) (xs.length - 1) cap) ∧
      Mine w' B (some ⟨b, o, none⟩) cap (xs.eraseIdx i) ∧ w.grownBy w' (some b) := by
  have h1 := h.ints.len
  have h2 := h.ints.cap_le
  have hbd := h.ints.bd
  subst hz
  obtain rfl : y = ((i + 1 : Nat) : Int) := by omega
  refine (Try.slices_Delete_int b o cap i (i + 1) xs w h.holds h1 h2 (by omega) (by omega)).mono fun e w' hh => ?_
  obtain ⟨rfl, q, rfl⟩ := hh
  have e1 : i + 1 - i = 1 := by omega
  have e2 : xs.take i ++ xs.drop (i + 1) = xs.eraseIdx i := (List.eraseIdx_eq_take_drop_succ ..).symm
  rw [e1, e2]
  refine ⟨rfl, h.put (xs.eraseIdx i) [0] (by simp [List.length_eraseIdx_of_lt hi]; omega) (fun j hj => ?_), grown_putRow _ _ _ _ _ _⟩
  rw [getD_lt 0 hj]
  obtain ⟨k, hk, he⟩ := List.mem_iff_getElem.1 ((List.eraseIdx_sublist xs i).subset (List.getElem_mem hj))
  have := hbd k hk
  rw [getD_lt 0 hk, he] at this
  exact this
end Go.Proofs.Ytkmkcbkfakoomaa

/- Facts and contracts that the claim uses. No condition of its own. -/
set_option linter.unusedVariables false
set_option linter.unusedSimpArgs false
namespace Go.Proofs.Ytkmkcbkfakoomaa
open Go.RowKit
def pfAt (xs : List Int) (k : Nat) : Int :=
  if xs.getD k 0 < 0 ∨ (xs.length : Int) ≤ xs.getD k 0 then 1 else if xs.getD k 0 ∈ xs.take k then 5 else 0
def permFault (xs : List Int) : Int := if 9 < xs.length then 2 else firstNZ (pfAt xs) xs.length
theorem pfAt_one {xs : List Int} {k : Nat} (hk : k < xs.length) (h : xs[k] < 0 ∨ (xs.length : Int) ≤ xs[k]) : pfAt xs k = 1 := by
  unfold pfAt; rw [getD_lt 0 hk, if_pos h]
theorem pfAt_five {xs : List Int} {k : Nat} (hk : k < xs.length) (h : 0 ≤ xs[k] ∧ xs[k] < (xs.length : Int)) (h5 : xs[k] ∈ xs.take k) : pfAt xs k = 5 := by
  unfold pfAt; rw [getD_lt 0 hk, if_neg (by omega), if_pos h5]
theorem pfAt_zero {xs : List Int} {k : Nat} (hk : k < xs.length) (h : 0 ≤ xs[k] ∧ xs[k] < (xs.length : Int)) (h5 : ¬ xs[k] ∈ xs.take k) : pfAt xs k = 0 := by
  unfold pfAt; rw [getD_lt 0 hk, if_neg (by omega), if_neg h5]
theorem pfAt_more {xs : List Int} {k : Nat} (h : ∀ j, j < k → pfAt xs j = 0) (h0 : pfAt xs k = 0) : ∀ j, j < k + 1 → pfAt xs j = 0 := by
  intro j hj
  by_cases e : j = k
  · subst e; exact h0
  · exact h j (by omega)
theorem permFault_at {xs : List Int} {k : Nat} {c : Int} (h9 : xs.length ≤ 9) (hk : k < xs.length) (h : ∀ j, j < k → pfAt xs j = 0) (hc : pfAt xs k = c) (h0 : c ≠ 0) : permFault xs = c := by
  unfold permFault; rw [if_neg (by omega), firstNZ_at hk h (by rw [hc]; exact h0), hc]
theorem permFault_ok {xs : List Int} (h9 : xs.length ≤ 9) (h : ∀ j, j < xs.length → pfAt xs j = 0) : permFault xs = 0 := by
  unfold permFault; rw [if_neg (by omega), firstNZ_zero h]
set_option maxHeartbeats 400000 in
theorem check_c (A : Option Addr) (cap : Nat) (xs : List Int) (w : World) (h : IsInts w A cap xs) :
    Calls Try.prog 45 #[.slice A xs.length cap] w fun e w' => e = .returned (.int .i64 (permFault xs)) ∧ w = w' := by
  have h1 := h.len
  have h2 := h.cap_le
  go_enter Try.func45, Try.ntmps45
  go_wp2
  · go_ret
    exact ⟨ret_int (by rw [permFault, if_pos (by omega)]), rfl⟩
  · go_loop [3, 4, 10] (fun _ _ i => ∃ k : Nat, k ≤ xs.length ∧ i = .int .i64 k ∧ ∀ j, j < k → pfAt xs j = 0) (fun _ _ i => xs.length - (intOf i).toNat)
    case atStart => exact ⟨0, Nat.zero_le _, rfl, fun j hj => absurd hj (by omega)⟩
    case round =>
      obtain ⟨k, hk, rfl, hz⟩ := hrel
      have HZ := Lib.hid hz
      clear hz
      by_cases hlt : k < xs.length
      · obtain ⟨b, o, rfl, _, hc⟩ := h.row (by intro e; simp [e] at hlt)
        have hck := hc k hlt
        clear hc
        have hbd := h.bd k hlt
        unfold in64 at hbd
        obtain ⟨hb1, hb2⟩ := hbd
        go_wp2_with (go_at_call 24; refine (slices_contains _ _ _ _ _ h k (by omega)).mono ?_; rintro e w' ⟨rfl, rfl⟩)
        · go_ret
          exact ⟨ret_int (permFault_at (by omega) hlt HZ.out (pfAt_one hlt ‹_›) (by omega)).symm, rfl⟩
        · go_ret
          exact ⟨ret_int (permFault_at (by omega) hlt HZ.out (pfAt_five hlt ‹_› ‹_›) (by omega)).symm, rfl⟩
        · go_round
          case rel => exact ⟨k + 1, by omega, by go_num, pfAt_more HZ.out (pfAt_zero hlt ‹_› ‹_›)⟩
          case measure => simp [intOf]; omega
        · go_ret
          exact ⟨ret_int (permFault_at (by omega) hlt HZ.out (pfAt_one hlt (.inl ‹_›)) (by omega)).symm, rfl⟩
      · go_wp2
        go_ret
        obtain rfl : k = xs.length := by omega
        exact ⟨ret_int (permFault_ok (by omega) HZ.out).symm, rfl⟩
end Go.Proofs.Ytkmkcbkfakoomaa

/- Facts and contracts that the claim uses. No condition of its own. -/
set_option linter.unusedVariables false
set_option linter.unusedSimpArgs false
namespace Go.Proofs.Ytkmkcbkfakoomaa
open Go.RowKit
end Go.Proofs.Ytkmkcbkfakoomaa

/- Facts and contracts that the claim uses. No condition of its own. -/
set_option linter.unusedVariables false
set_option linter.unusedSimpArgs false
namespace Go.Proofs.Ytkmkcbkfakoomaa
open Go.RowKit
theorem permFault_range {xs : List Int} (h : permFault xs = 0) : xs.length ≤ 9 ∧ InRange xs ∧ xs.Nodup := by
  unfold permFault at h
  split at h
  · cases h
  · rename_i h9
    rw [firstNZ_zero_iff] at h
    refine ⟨by omega, fun i hi => ?_, ?_⟩
    · have := h i hi
      unfold pfAt at this
      split at this
      · cases this
      · omega
    · refine List.pairwise_iff_getElem.2 fun i j hi hj hij e => ?_
      have := h j hj
      unfold pfAt at this
      split at this
      · cases this
      · split at this
        · cases this
        · rename_i hm
          apply hm
          rw [getD_lt 0 hj, ← e]
          exact List.mem_iff_getElem.2 ⟨i, by simp; omega, by simp⟩
end Go.Proofs.Ytkmkcbkfakoomaa
