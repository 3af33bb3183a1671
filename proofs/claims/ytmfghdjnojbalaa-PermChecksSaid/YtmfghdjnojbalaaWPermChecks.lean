/- Contracts of functions of this seat, and plain facts for them: used by the claims. No condition of its own. -/
import Derived.Test.YtmfghdjnojbalaaPermuted
import Derived.Test.YtmfghdjnojbalaaFault
set_option linter.unusedVariables false
namespace Go.Proofs.Ytmfghdjnojbalaa
open Go.RowKit

set_option maxRecDepth 100000 in
set_option maxHeartbeats 1000000 in
theorem permChecks_walk (A : Option Addr) (cap : Nat) (xs : List Int) (w : World) (h : IsInts w A cap xs) :
    Calls Try.prog 3 #[.slice A xs.length cap] w fun e w' => e = .returned (.bool true) ∧ Below w.heap.size w w' := by
  go_enter Try.func3, Try.ntmps3
  go_wp2_with (first
    | (go_at_call 10; refine (permuted_c _).mono ?_; rintro e w1 ⟨rfl, hb1⟩; have h1 := h.below hb1 (Nat.le_refl _))
    | (go_at_call 11; refine (check_c _ _ _ _ h1).mono ?_; rintro e w' ⟨rfl, rfl⟩)
    | (go_at_call 12; refine (fault_c _ _ _ _ h1).mono ?_; rintro e w2 ⟨rfl, hb2⟩))
  go_ret
  exact ⟨rfl, hb1.trans (hb2.mono hb1.size)⟩
end Go.Proofs.Ytmfghdjnojbalaa
