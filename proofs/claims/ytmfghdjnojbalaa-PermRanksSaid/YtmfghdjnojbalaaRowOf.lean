/- Contracts of functions of this seat, and plain facts for them: used by the claims. No condition of its own. -/
import Derived.Test.YtmfghdjnojbalaaMine
import Derived.Test.YtmfghdjnojbalaaNumPlain
import Derived.Test.YtmfghdjnojbalaaCycles
set_option linter.unusedVariables false
namespace Go.Proofs.Ytmfghdjnojbalaa
open Go.RowKit

set_option maxHeartbeats 1000000 in
theorem row_c (n : Nat) (w : World) (hn : n ≤ 1000000) :
    Calls Try.prog 49 #[.int .i64 n] w fun e w' => e = .returned (.slice (some ⟨w.heap.size, 0, none⟩) n n) ∧ w'.rowIs w.heap.size 3 n (fun i => .int .i64 ((idRow n).getD i 0)) ∧ Below w.heap.size w w' := by
  have hmk := fun W => run_make_row' (P := Try.prog) 22 3 (.int .i64 0) 8 Try.underlying22 info3 rfl .i64 .i64 n (by omega) (by omega) W
  go_enter Try.func49, Try.ntmps49
  go_wp2
  go_loopw [4, 9] (fun _ i wr => ∃ k : Nat, k ≤ n ∧ i = .int .i64 k ∧ wr.rowIs w.heap.size 3 n (fun j => if j < k then .int .i64 j else .int .i64 0) ∧ Below w.heap.size w wr) (fun _ i _ => n - (intOf i).toNat)
  case atStart => exact ⟨0, Nat.zero_le _, rfl, (World.rowIs_made _ _ _ _).congr (fun i _ => by simp), (Below.refl _ _).alloc (Nat.le_refl _) _⟩
  case round =>
    obtain ⟨k, hk, rfl, hr, hb⟩ := hrel
    by_cases hlt : k < n
    · have hck := hr.cell hlt
      have hfk := hr.frozen k
      simp only [Nat.lt_irrefl, if_false] at hck
      go_wp2
      go_roundw
      case rel => exact ⟨k + 1, by omega, by go_num, (hr.set k _).congr (fun i _ => by by_cases e : i = k <;> by_cases e2 : i < k <;> simp [e, e2] <;> omega), hb.setCell (p := ⟨w.heap.size, k, none⟩) (Nat.le_refl _) _⟩
      case measure => simp [intOf]; omega
    · go_wp2
      go_ret
      obtain rfl : k = n := by omega
      exact ⟨rfl, hr.congr (fun i hi => by rw [if_pos hi, idRow_get hi]), hb⟩
set_option maxHeartbeats 1000000 in
theorem identity_c (n : Nat) (w : World) (hn : n ≤ 1000000) :
    Calls Try.prog 46 #[.int .i64 n] w fun e w' => e = .returned (.slice (some ⟨w.heap.size, 0, none⟩) n n) ∧ w'.rowIs w.heap.size 3 n (fun i => .int .i64 ((idRow n).getD i 0)) ∧ Below w.heap.size w w' := by
  have hmk := fun W => run_make_row' (P := Try.prog) 22 3 (.int .i64 0) 8 Try.underlying22 info3 rfl .i64 .i64 n (by omega) (by omega) W
  go_enter Try.func46, Try.ntmps46
  go_wp2
  go_loopw [4, 9] (fun _ i wr => ∃ k : Nat, k ≤ n ∧ i = .int .i64 k ∧ wr.rowIs w.heap.size 3 n (fun j => if j < k then .int .i64 j else .int .i64 0) ∧ Below w.heap.size w wr) (fun _ i _ => n - (intOf i).toNat)
  case atStart => exact ⟨0, Nat.zero_le _, rfl, (World.rowIs_made _ _ _ _).congr (fun i _ => by simp), (Below.refl _ _).alloc (Nat.le_refl _) _⟩
  case round =>
    obtain ⟨k, hk, rfl, hr, hb⟩ := hrel
    by_cases hlt : k < n
    · have hck := hr.cell hlt
      have hfk := hr.frozen k
      simp only [Nat.lt_irrefl, if_false] at hck
      go_wp2
      go_roundw
      case rel => exact ⟨k + 1, by omega, by go_num, (hr.set k _).congr (fun i _ => by by_cases e : i = k <;> by_cases e2 : i < k <;> simp [e, e2] <;> omega), hb.setCell (p := ⟨w.heap.size, k, none⟩) (Nat.le_refl _) _⟩
      case measure => simp [intOf]; omega
    · go_wp2
      go_ret
      obtain rfl : k = n := by omega
      exact ⟨rfl, hr.congr (fun i hi => by rw [if_pos hi, idRow_get hi]), hb⟩
end Go.Proofs.Ytmfghdjnojbalaa
