/- Contracts of functions of this seat, and plain facts for them: used by the claims. No condition of its own. -/
import Derived.Test.YtmfghdjnojbalaaOrder
import Derived.Test.YtmfghdjnojbalaaRank
set_option linter.unusedVariables false
set_option linter.unusedSimpArgs false
namespace Go.Proofs.Ytmfghdjnojbalaa
open Go.RowKit

theorem bd_of_all {xs : List Int} (h : xs.all (fun x => decide (-9223372036854775808 ≤ x) && decide (x ≤ 9223372036854775807)) = true) : ∀ i, i < xs.length → in64 (xs.getD i 0) := by
  intro i hi
  rw [getD_lt 0 hi]
  have := List.all_eq_true.1 h _ (List.getElem_mem hi)
  simpa [in64] using this

set_option maxRecDepth 100000 in
set_option maxHeartbeats 1000000 in
theorem permuted_c (w : World) : Calls Try.prog 10 #[] w fun e w' => e = .returned (.bool true) ∧ Below w.heap.size w w' := by
  have hI := ints_lit w [2, 0, 1] #[.int .i64 2, .int .i64 0, .int .i64 1] 3 w.heap.size 3 rfl rfl rfl (by decide) (bd_of_all (by decide))
  have f0 : permFault [2, 0, 1] = 0 := by decide
  have fr : rank [2, 0, 1] = 4 := by decide
  have fo : orderOf [2, 0, 1] = 3 := by decide +kernel
  have F0 := Lib.hid f0
  have FR := Lib.hid fr
  have FO := Lib.hid fo
  clear f0 fr fo
  go_enter Try.func10, Try.ntmps10
  go_wp2_with (first
    | (go_at_call 13; refine (rank_ok _ _ _ _ hI F0.out (by decide)).mono ?_; rw [FR.out]; rintro e w' ⟨rfl, rfl⟩)
    | (go_at_call 24; refine (order_ok _ _ _ _ (ints_lit _ [2, 0, 1] #[.int .i64 2, .int .i64 0, .int .i64 1] 3 (w.heap.size + 1) 3 rfl (by simp) rfl (by decide) (bd_of_all (by decide))) F0.out).mono ?_; rw [FO.out]; rintro e w1 ⟨rfl, hb1⟩))
  go_ret
  exact ⟨rfl, (((Below.refl _ _).alloc (Nat.le_refl _) _).alloc (by simp) _).trans (hb1.mono (by simp; omega))⟩
end Go.Proofs.Ytmfghdjnojbalaa
