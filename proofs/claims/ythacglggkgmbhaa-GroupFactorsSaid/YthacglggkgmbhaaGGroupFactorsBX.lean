/- The laws GroupOrders and GroupFactors hold for all numbers and lists. No condition of its own. -/
import Derived.Test.YthacglggkgmbhaaGGroupFactorsBW
set_option linter.unusedVariables false
set_option linter.unusedSimpArgs false
namespace Go.Proofs.Ythacglggkgmbhaa
open Go.RowKit

theorem one_ok {N : Nat} {p : List Int} (h : grF N [p] = 0) : ∃ P, Pe N P ∧ p = tabN N P := by
  obtain ⟨N', gs, e, _, _, h3, h4⟩ := grF_ok h
  have e : N = N' := by omega
  subst e
  match gs, h3, h4 with
  | [g], h3, h4 => exact ⟨g, h3 g (by simp), by simpa using h4⟩
  | [], _, h4 => simp at h4
  | _ :: _ :: _, _, h4 => simp at h4
end Go.Proofs.Ythacglggkgmbhaa
