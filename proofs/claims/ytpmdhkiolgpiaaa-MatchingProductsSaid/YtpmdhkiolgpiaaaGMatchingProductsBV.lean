/- slices.Delete for the evaluator. No condition of its own. -/
import Derived.Test.YtpmdhkiolgpiaaaGMatchingProductsBH
import Derived.Test.YtpmdhkiolgpiaaaGMatchingProductsBU
import Derived.Test.YtpmdhkiolgpiaaaGMatchingProductsBE
set_option linter.unusedVariables false
set_option linter.unusedSimpArgs false
namespace Go.Proofs.Ytpmdhkiolgpiaaa
open Go.RowKit

def delE (D f : FuncId) (zs : List Int) (us : List Value) : Option (List Int) :=
  match us with
  | [.int .i64 (.ofNat i), .int .i64 (.ofNat j)] => bif Nat.beq f D && Nat.ble i j && Nat.ble j zs.length then some (zs.take i ++ zs.drop j) else none
  | _ => none
def delLib (D : FuncId) : Cal := ⟨fun _ _ _ => none, fun _ _ => none, fun _ _ => none, delE D⟩
theorem delLib_ok : CalOk Try.prog (delLib 57) := by
  refine ⟨fun _ _ _ _ _ h => (by cases h), fun _ _ _ h => (by cases h), fun _ _ _ _ _ h => (by cases h), fun f zs us ys he => ?_⟩
  simp only [delLib, delE] at he
  split at he
  · obtain ⟨hb, he⟩ := cond_some he
    cases he
    simp only [Bool.and_eq_true, Nat.beq_eq, Nat.ble_eq] at hb
    obtain ⟨⟨h1, h4⟩, h5⟩ := hb
    subst h1
    exact delete_m h4 h5
  · cases he
end Go.Proofs.Ytpmdhkiolgpiaaa

/- temperleylieb on given numbers, by the kernel. No condition of its own. -/
set_option linter.unusedVariables false
set_option linter.unusedSimpArgs false
namespace Go.Proofs.Ytpmdhkiolgpiaaa
open Go.RowKit

def gTab : List (FuncId × Hn) := [(10, {}), (5, {}), (27, {}), (20, {}), (37, {}), (50, {}), (45, {}), (38, {}), (55, {}), (21, { fz := [100001] }), (41, {}), (39, {}), (40, { rb := [9, 25] }), (42, { rb := [51], wc := [63] }), (43, {}), (11, {}), (56, {})]
theorem gTab_ok : FOk Try.prog (tabE Try.prog gTab) := fokB_s (by kernel_rfl)
set_option maxRecDepth 100000 in
theorem matched_s : SC Try.prog 10 [] (.sc (.bool true)) := evP_s tok mixed gTab_ok delLib_ok 3000 (by kernel_rfl)
end Go.Proofs.Ytpmdhkiolgpiaaa
