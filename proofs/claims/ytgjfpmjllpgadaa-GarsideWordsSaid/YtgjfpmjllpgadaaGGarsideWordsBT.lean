/- Lists of lists, each with or without room behind it. No condition of its own. -/
import Derived.Test.YtgjfpmjllpgadaaGGarsideWordsAT
set_option linter.unusedVariables false
set_option linter.unusedSimpArgs false
namespace Go.Proofs.Ytgjfpmjllpgadaa
open Go.RowKit

def pcl (p : Bool × List Int) : PV := .lst p.1 1 p.2.length (ints p.2)
def flat (cs : List (Bool × List Int)) : List Int := cs.flatMap (·.2)
theorem flat_take (cs : List (Bool × List Int)) (k : Nat) : (flat (cs.take k)).length ≤ (flat cs).length := by
  have h := congrArg (fun l => (flat l).length) (List.take_append_drop k cs)
  simp only [flat, List.flatMap_append, List.length_append] at h ⊢
  omega
theorem flat_succ {cs : List (Bool × List Int)} {k : Nat} (hk : k < cs.length) : flat (cs.take (k + 1)) = flat (cs.take k) ++ cs[k].2 := by
  unfold flat
  rw [List.take_succ_eq_append_getElem hk, List.flatMap_append]
  simp only [List.flatMap_cons, List.flatMap_nil, List.append_nil]
end Go.Proofs.Ytgjfpmjllpgadaa
