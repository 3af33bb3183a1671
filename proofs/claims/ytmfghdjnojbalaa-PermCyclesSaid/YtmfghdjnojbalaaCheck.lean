/- Contracts of functions of this seat, and plain facts for them: used by the claims. No condition of its own. -/
import Derived.Test.YtmfghdjnojbalaaBase
import Derived.Test.YtmfghdjnojbalaaPlain
import Derived.Test.YtmfghdjnojbalaaStd
set_option linter.unusedVariables false
set_option linter.unusedSimpArgs false
namespace Go.Proofs.Ytmfghdjnojbalaa
open Go.RowKit

/-- The fault of the element at k. -/
def pfAt (xs : List Int) (k : Nat) : Int :=
  if xs.getD k 0 < 0 ∨ (xs.length : Int) ≤ xs.getD k 0 then 1 else if xs.getD k 0 ∈ xs.take k then 5 else 0
def permFault (xs : List Int) : Int := if 9 < xs.length then 2 else firstNZ (pfAt xs) xs.length

theorem pfAt_one {xs : List Int} {k : Nat} (hk : k < xs.length) (h : xs[k] < 0 ∨ (xs.length : Int) ≤ xs[k]) : pfAt xs k = 1 := by
  unfold pfAt; rw [getD_lt 0 hk, if_pos h]
theorem pfAt_five {xs : List Int} {k : Nat} (hk : k < xs.length) (h : 0 ≤ xs[k] ∧ xs[k] < (xs.length : Int)) (h5 : xs[k] ∈ xs.take k) : pfAt xs k = 5 := by
  unfold pfAt; rw [getD_lt 0 hk, if_neg (by omega), if_pos h5]
theorem pfAt_zero {xs : List Int} {k : Nat} (hk : k < xs.length) (h : 0 ≤ xs[k] ∧ xs[k] < (xs.length : Int)) (h5 : ¬ xs[k] ∈ xs.take k) : pfAt xs k = 0 := by
  unfold pfAt; rw [getD_lt 0 hk, if_neg (by omega), if_neg h5]
theorem pfAt_more {xs : List Int} {k : Nat} (h : ∀ j, j < k → pfAt xs j = 0) (h0 : pfAt xs k = 0) : ∀ j, j < k + 1 → pfAt xs j = 0 := by
  intro j hj
  by_cases e : j = k
  · subst e; exact h0
  · exact h j (by omega)
theorem permFault_at {xs : List Int} {k : Nat} {c : Int} (h9 : xs.length ≤ 9) (hk : k < xs.length) (h : ∀ j, j < k → pfAt xs j = 0) (hc : pfAt xs k = c) (h0 : c ≠ 0) : permFault xs = c := by
  unfold permFault; rw [if_neg (by omega), firstNZ_at hk h (by rw [hc]; exact h0), hc]
theorem permFault_ok {xs : List Int} (h9 : xs.length ≤ 9) (h : ∀ j, j < xs.length → pfAt xs j = 0) : permFault xs = 0 := by
  unfold permFault; rw [if_neg (by omega), firstNZ_zero h]

set_option maxHeartbeats 400000 in
theorem check_c (A : Option Addr) (cap : Nat) (xs : List Int) (w : World) (h : IsInts w A cap xs) :
    Calls Try.prog 11 #[.slice A xs.length cap] w fun e w' => e = .returned (.int .i64 (permFault xs)) ∧ w = w' := by
  have h1 := h.len
  have h2 := h.cap_le
  go_enter Try.func11, Try.ntmps11
  go_wp2
  · go_ret
    exact ⟨ret_int (by rw [permFault, if_pos (by omega)]), rfl⟩
  · go_loop [3, 4, 10] (fun _ _ i => ∃ k : Nat, k ≤ xs.length ∧ i = .int .i64 k ∧ ∀ j, j < k → pfAt xs j = 0) (fun _ _ i => xs.length - (intOf i).toNat)
    case atStart => exact ⟨0, Nat.zero_le _, rfl, fun j hj => absurd hj (by omega)⟩
    case round =>
      obtain ⟨k, hk, rfl, hz⟩ := hrel
      have HZ := Lib.hid hz
      clear hz
      by_cases hlt : k < xs.length
      · obtain ⟨b, o, rfl, _, hc⟩ := h.row (by intro e; simp [e] at hlt)
        have hck := hc k hlt
        clear hc
        have hbd := h.bd k hlt
        unfold in64 at hbd
        obtain ⟨hb1, hb2⟩ := hbd
        go_wp2_with (go_at_call 45; refine (slices_contains _ _ _ _ _ h k (by omega)).mono ?_; rintro e w' ⟨rfl, rfl⟩)
        · go_ret
          exact ⟨ret_int (permFault_at (by omega) hlt HZ.out (pfAt_one hlt ‹_›) (by omega)).symm, rfl⟩
        · go_ret
          exact ⟨ret_int (permFault_at (by omega) hlt HZ.out (pfAt_five hlt ‹_› ‹_›) (by omega)).symm, rfl⟩
        · go_round
          case rel => exact ⟨k + 1, by omega, by go_num, pfAt_more HZ.out (pfAt_zero hlt ‹_› ‹_›)⟩
          case measure => simp [intOf]; omega
        · go_ret
          exact ⟨ret_int (permFault_at (by omega) hlt HZ.out (pfAt_one hlt (.inl ‹_›)) (by omega)).symm, rfl⟩
      · go_wp2
        go_ret
        obtain rfl : k = xs.length := by omega
        exact ⟨ret_int (permFault_ok (by omega) HZ.out).symm, rfl⟩
end Go.Proofs.Ytmfghdjnojbalaa
