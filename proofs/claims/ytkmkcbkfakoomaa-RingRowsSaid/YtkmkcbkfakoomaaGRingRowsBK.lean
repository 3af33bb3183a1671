/- Facts and contracts that the claim uses. No condition of its own. -/
import Derived.Test.YtkmkcbkfakoomaaGRingRowsBJ
import Derived.Test.YtkmkcbkfakoomaaGRingRowsBF
import Derived.Test.YtkmkcbkfakoomaaGRingRowsAD
set_option linter.unusedVariables false
set_option linter.unusedSimpArgs false
namespace Go.Proofs.Ytkmkcbkfakoomaa
open Go.RowKit
theorem smaller_le (xs : List Int) (k j : Nat) : smaller xs k j ≤ j := by
  unfold smaller
  exact Nat.le_trans (List.length_filter_le _ _) (by simp; omega)
theorem smaller_succ {xs : List Int} {k j : Nat} (h : k + 1 + j < xs.length) :
    smaller xs k (j + 1) = smaller xs k j + if xs[k + 1 + j] < xs.getD k 0 then 1 else 0 := by
  unfold smaller
  rw [List.take_succ_eq_append_getElem (by simp; omega), List.filter_append, List.length_append]
  congr 1
  rw [List.getElem_drop]
  generalize xs.getD k 0 = z
  by_cases e : xs[k + 1 + j] < z <;> simp [e]
theorem rk_le (xs : List Int) (h9 : xs.length ≤ 9) : ∀ k, k ≤ xs.length → rk xs k ≤ 10 ^ k
  | 0, _ => by simp [rk]
  | k + 1, hk => by
    have h1 := rk_le xs h9 k (by omega)
    have h2 := smaller_le xs k (xs.length - (k + 1))
    have h3 : rk xs k * (xs.length - k) ≤ 10 ^ k * 9 := Nat.mul_le_mul h1 (by omega)
    have h4 : 0 < 10 ^ k := Nat.pow_pos (by omega)
    have h5 : 10 ^ (k + 1) = 10 ^ k * 10 := Nat.pow_succ ..
    by_cases e : k = 0
    · subst e; simp [rk] at *; omega
    · have h6 : 10 ^ 1 ≤ 10 ^ k := Nat.pow_le_pow_right (by omega) (by omega)
      simp only [rk]; omega
theorem rk_bd (xs : List Int) (h9 : xs.length ≤ 9) (k : Nat) (hk : k ≤ xs.length) : rk xs k ≤ 1000000000 :=
  Nat.le_trans (rk_le xs h9 k hk) (Nat.le_trans (Nat.pow_le_pow_right (by omega) (show k ≤ 9 by omega)) (by decide))
set_option maxHeartbeats 400000 in
theorem rank_ok (A : Option Addr) (cap : Nat) (xs : List Int) (w : World) (h : IsInts w A cap xs) (hf : permFault xs = 0) (h9 : xs.length ≤ 9) :
    Calls Try.prog 28 #[.slice A xs.length cap] w fun e w' => e = .returned (.tuple #[.int .i64 (rank xs), .int .i64 0]) ∧ w = w' := by
  have h1 := h.len
  have h2 := h.cap_le
  have HC := Lib.hid hf
  clear hf
  go_enter Try.func28, Try.ntmps28
  go_wp2_with (go_at_call 45; refine (check_c _ _ _ _ h).mono ?_; rw [HC.out]; rintro e w' ⟨rfl, rfl⟩)
  go_loop [5, 6, 7, 8, 10, 18] (fun out _ _ _ _ i => ∃ k : Nat, k ≤ xs.length ∧ i = .int .i64 k ∧ out = .int .i64 (rk xs k)) (fun _ _ _ _ _ i => xs.length - (intOf i).toNat)
  case atStart => exact ⟨0, Nat.zero_le _, rfl, rfl⟩
  case round =>
    obtain ⟨k, hk, rfl, rfl⟩ := hrel
    by_cases hlt : k < xs.length
    · obtain ⟨b, o, rfl, hbl, hc⟩ := h.row (by intro e; simp [e] at hlt)
      have hck := hc k hlt
      rw [getD_lt 0 hlt] at hck
      clear hc
      have hsm := fun j => smaller_le xs k j
      have hrk := rk_bd xs h9 k hk
      have hrk1 := rk_bd xs h9 (k + 1) (by omega)
      have HR : Hid (rk xs (k + 1) = rk xs k * (xs.length - k) + smaller xs k (xs.length - (k + 1))) := rfl
      have hcut := h.cut (k := k + 1) (by omega)
      go_wp2_with ((with_reducible refine at_dst 26 ?_); refine wpList_slice_from _ rfl _ _ 22 3 rfl Try.underlying22 Try.sizeOf3 _ xs.length cap (by rfl) _ (by rfl) (k + 1) (by omega) (by omega) ?_; generalize cutAt _ cap (k + 1) = A' at *)
      go_loop [8, 10, 28] (fun sm _ i => ∃ j : Nat, k + 1 + j ≤ xs.length ∧ i = .int .i64 j ∧ sm = .int .i64 (smaller xs k j)) (fun _ _ i => xs.length - (intOf i).toNat)
      case atStart => exact ⟨0, by omega, rfl, rfl⟩
      case round =>
        obtain ⟨j, hj, rfl, rfl⟩ := hrel
        have hs := hsm j
        clear hsm
        by_cases hjl : k + 1 + j < xs.length
        · obtain ⟨b', o', rfl, hbl', hc⟩ := hcut.row (by intro e; have := congrArg List.length e; simp at this; omega)
          have hcj := hc j (by simp; omega)
          rw [getD_lt 0 (by simp; omega), List.getElem_drop] at hcj
          clear hc
          have HS := Lib.hid (smaller_succ hjl)
          rw [getD_lt 0 hlt] at HS
          go_wp2
          all_goals
            go_round
            case rel => exact ⟨j + 1, by omega, by go_num, by rw [HS.out]; first | (rw [if_pos ‹_›]; go_num) | (rw [if_neg (by omega)]; go_num)⟩
            case measure => simp [intOf]; omega
        · have hp1 : (0 : Int) ≤ (rk xs k : Int) * ((xs.length : Int) - (k : Int)) := Int.mul_nonneg (by omega) (by omega)
          have hp2 : (rk xs k : Int) * ((xs.length : Int) - (k : Int)) ≤ 1000000000 * 9 := Int.mul_le_mul (by omega) (by omega) (by omega) (by omega)
          obtain rfl : j = xs.length - (k + 1) := by omega
          go_wp2
          go_round
          case rel => exact ⟨k + 1, by omega, by go_num, by rw [HR.out]; congr 1; rw [Int.natCast_add, Int.natCast_mul, Int.natCast_sub hk]⟩
          case measure => simp [intOf]; omega
    · go_wp2
      go_ret2
      obtain rfl : k = xs.length := by omega
      exact ⟨rfl, rfl⟩
end Go.Proofs.Ytkmkcbkfakoomaa
