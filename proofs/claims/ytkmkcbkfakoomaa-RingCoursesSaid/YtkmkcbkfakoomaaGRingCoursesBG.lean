/- Facts and contracts that the claim uses. No condition of its own. -/
import Derived.Test.YtkmkcbkfakoomaaGRingCoursesBF
import Derived.Test.YtkmkcbkfakoomaaRows
import Derived.Test.YtkmkcbkfakoomaaGRingCoursesAE
import Derived.Test.YtkmkcbkfakoomaaGRingCoursesAA
set_option linter.unusedVariables false
set_option linter.unusedSimpArgs false
namespace Go.Proofs.Ytkmkcbkfakoomaa
open Go.RowKit
theorem info3 : (Try.prog.info? 3).map (fun i => (i.zero, i.size, i.bytes)) = some (some (.int .i64 0), 1, 8) := by kernel_rfl
theorem el_int : Elem1 Try.prog 22 3 (.int .i64 0) 8 := ⟨Try.underlying22, info3, rfl, by decide⟩
theorem info4 : (Try.prog.info? 4).map (fun i => (i.zero, i.size, i.bytes)) = some (some (.bool false), 1, 1) := by kernel_rfl
theorem info22 : (Try.prog.info? 22).map (fun i => (i.zero, i.size, i.bytes)) = some (some (.slice none 0 0), 1, 24) := by kernel_rfl
theorem el_ints : Elem1 Try.prog 26 22 (.slice none 0 0) 24 := ⟨Try.underlying26, info22, rfl, by decide⟩
theorem slices_contains (A : Option Addr) (cap : Nat) (xs : List Int) (x : Int) (w : World) (h : IsInts w A cap xs) (k : Nat) (hk : k ≤ xs.length) :
    Calls Try.prog 24 #[.slice A k cap, .int .i64 x] w fun e w' => e = .returned (.bool ((xs.take k).contains x)) ∧ w = w' := by
  have h1 := h.len
  have h2 := h.cap_le
  by_cases hx : xs = []
  · subst hx
    obtain rfl : k = 0 := by simpa using hk
    exact (Try.slices_Contains_int_empty A cap x w).mono fun _ _ ⟨a, b⟩ => ⟨a, b.symm⟩
  · obtain ⟨b, o, rfl, _, hc⟩ := h.row hx
    exact (Try.slices_Contains_int b o k cap xs x w hk (by omega) hc).mono fun _ _ ⟨a, b⟩ => ⟨a, b.symm⟩
set_option maxHeartbeats 400000 in
theorem clip_c (A : Option Addr) (n cap : Nat) (w : World) (hn : n ≤ cap) (hc : cap ≤ 9223372036854775807) :
    Calls Try.prog 35 #[.slice A n cap] w fun e w' => e = .returned (.slice A n n) ∧ w = w' := by
  go_enter Try.func35, Try.ntmps35
  go_wp2
  go_ret
  exact ⟨rfl, rfl⟩
end Go.Proofs.Ytkmkcbkfakoomaa

/- Facts and contracts that the claim uses. No condition of its own. -/
set_option linter.unusedVariables false
set_option linter.unusedSimpArgs false
namespace Go.Proofs.Ytkmkcbkfakoomaa
open Go.RowKit
def pfAt (xs : List Int) (k : Nat) : Int :=
  if xs.getD k 0 < 0 ∨ (xs.length : Int) ≤ xs.getD k 0 then 1 else if xs.getD k 0 ∈ xs.take k then 5 else 0
def permFault (xs : List Int) : Int := if 9 < xs.length then 2 else firstNZ (pfAt xs) xs.length
theorem pfAt_one {xs : List Int} {k : Nat} (hk : k < xs.length) (h : xs[k] < 0 ∨ (xs.length : Int) ≤ xs[k]) : pfAt xs k = 1 := by
  unfold pfAt; rw [getD_lt 0 hk, if_pos h]
theorem pfAt_five {xs : List Int} {k : Nat} (hk : k < xs.length) (h : 0 ≤ xs[k] ∧ xs[k] < (xs.length : Int)) (h5 : xs[k] ∈ xs.take k) : pfAt xs k = 5 := by
  unfold pfAt; rw [getD_lt 0 hk, if_neg (by omega), if_pos h5]
theorem pfAt_zero {xs : List Int} {k : Nat} (hk : k < xs.length) (h : 0 ≤ xs[k] ∧ xs[k] < (xs.length : Int)) (h5 : ¬ xs[k] ∈ xs.take k) : pfAt xs k = 0 := by
  unfold pfAt; rw [getD_lt 0 hk, if_neg (by omega), if_neg h5]
theorem pfAt_more {xs : List Int} {k : Nat} (h : ∀ j, j < k → pfAt xs j = 0) (h0 : pfAt xs k = 0) : ∀ j, j < k + 1 → pfAt xs j = 0 := by
  intro j hj
  by_cases e : j = k
  · subst e; exact h0
  · exact h j (by omega)
theorem permFault_at {xs : List Int} {k : Nat} {c : Int} (h9 : xs.length ≤ 9) (hk : k < xs.length) (h : ∀ j, j < k → pfAt xs j = 0) (hc : pfAt xs k = c) (h0 : c ≠ 0) : permFault xs = c := by
  unfold permFault; rw [if_neg (by omega), firstNZ_at hk h (by rw [hc]; exact h0), hc]
theorem permFault_ok {xs : List Int} (h9 : xs.length ≤ 9) (h : ∀ j, j < xs.length → pfAt xs j = 0) : permFault xs = 0 := by
  unfold permFault; rw [if_neg (by omega), firstNZ_zero h]
set_option maxHeartbeats 400000 in
theorem check_c (A : Option Addr) (cap : Nat) (xs : List Int) (w : World) (h : IsInts w A cap xs) :
    Calls Try.prog 45 #[.slice A xs.length cap] w fun e w' => e = .returned (.int .i64 (permFault xs)) ∧ w = w' := by
  have h1 := h.len
  have h2 := h.cap_le
  go_enter Try.func45, Try.ntmps45
  go_wp2
  · go_ret
    exact ⟨ret_int (by rw [permFault, if_pos (by omega)]), rfl⟩
  · go_loop [3, 4, 10] (fun _ _ i => ∃ k : Nat, k ≤ xs.length ∧ i = .int .i64 k ∧ ∀ j, j < k → pfAt xs j = 0) (fun _ _ i => xs.length - (intOf i).toNat)
    case atStart => exact ⟨0, Nat.zero_le _, rfl, fun j hj => absurd hj (by omega)⟩
    case round =>
      obtain ⟨k, hk, rfl, hz⟩ := hrel
      have HZ := Lib.hid hz
      clear hz
      by_cases hlt : k < xs.length
      · obtain ⟨b, o, rfl, _, hc⟩ := h.row (by intro e; simp [e] at hlt)
        have hck := hc k hlt
        clear hc
        have hbd := h.bd k hlt
        unfold in64 at hbd
        obtain ⟨hb1, hb2⟩ := hbd
        go_wp2_with (go_at_call 24; refine (slices_contains _ _ _ _ _ h k (by omega)).mono ?_; rintro e w' ⟨rfl, rfl⟩)
        · go_ret
          exact ⟨ret_int (permFault_at (by omega) hlt HZ.out (pfAt_one hlt ‹_›) (by omega)).symm, rfl⟩
        · go_ret
          exact ⟨ret_int (permFault_at (by omega) hlt HZ.out (pfAt_five hlt ‹_› ‹_›) (by omega)).symm, rfl⟩
        · go_round
          case rel => exact ⟨k + 1, by omega, by go_num, pfAt_more HZ.out (pfAt_zero hlt ‹_› ‹_›)⟩
          case measure => simp [intOf]; omega
        · go_ret
          exact ⟨ret_int (permFault_at (by omega) hlt HZ.out (pfAt_one hlt (.inl ‹_›)) (by omega)).symm, rfl⟩
      · go_wp2
        go_ret
        obtain rfl : k = xs.length := by omega
        exact ⟨ret_int (permFault_ok (by omega) HZ.out).symm, rfl⟩
end Go.Proofs.Ytkmkcbkfakoomaa
