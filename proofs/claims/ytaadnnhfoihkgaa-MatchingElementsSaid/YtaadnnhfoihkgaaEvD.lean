/- slices.Delete for the evaluator. No condition of its own. -/
import Derived.Test.YtaadnnhfoihkgaaDelM
import Derived.Test.YtaadnnhfoihkgaaEvB
set_option linter.unusedVariables false
set_option linter.unusedSimpArgs false
namespace Go.Proofs.Ytaadnnhfoihkgaa
open Go.RowKit

def delE (D f : FuncId) (zs : List Int) (us : List Value) : Option (List Int) :=
  match us with
  | [.int .i64 (.ofNat i), .int .i64 (.ofNat j)] => bif Nat.beq f D && Nat.ble i j && Nat.ble j zs.length then some (zs.take i ++ zs.drop j) else none
  | _ => none
def delLib (D : FuncId) : Cal := ⟨fun _ _ _ => none, fun _ _ => none, fun _ _ => none, delE D⟩
theorem delLib_ok : CalOk Try.prog (delLib 109) := by
  refine ⟨fun _ _ _ _ _ h => (by cases h), fun _ _ _ h => (by cases h), fun _ _ _ _ _ h => (by cases h), fun f zs us ys he => ?_⟩
  simp only [delLib, delE] at he
  split at he
  · obtain ⟨hb, he⟩ := cond_some he
    cases he
    simp only [Bool.and_eq_true, Nat.beq_eq, Nat.ble_eq] at hb
    obtain ⟨⟨h1, h4⟩, h5⟩ := hb
    subst h1
    exact delete_m h4 h5
  · cases he
end Go.Proofs.Ytaadnnhfoihkgaa
