/- The size of a letter. No condition of its own. -/
import Derived.Test.YtgjfpmjllpgadaaGLinkPartsBJ
set_option linter.unusedVariables false
set_option linter.unusedSimpArgs false
namespace Go.Proofs.Ytgjfpmjllpgadaa
open Go.RowKit

/-- the size of a letter, and its sign -/
def absI (x : Int) : Int := if x < -x then -x else x
def sgI (x : Int) : Int := if 0 < x then 1 else -1
theorem abs_let {n x : Int} (h : letP n x) (hn : n ≤ 6) : 1 ≤ absI x ∧ absI x ≤ n - 1 ∧ (x = absI x ∨ x = -absI x) ∧ -6 < x ∧ x < 6 := by
  obtain ⟨h1, h2, h3⟩ := h
  unfold absI; split <;> omega
set_option maxHeartbeats 2000000 in
set_option maxRecDepth 100000 in
theorem bindex_s (x : Int) (h : -9000000000000000000 ≤ x ∧ x ≤ 9000000000000000000) : SC Try.prog 67 [pint x] (pint (absI x)) := by
  refine SC.go {} tok mixed Try.func67 rfl rfl Try.ntmps67 rfl rfl (by kernel_rfl) ?_
  first | simp only [updS] | simp only [updL, Nat.reduceAdd]
  repeat (first | refine S0 ?_ | refine S1 ?_ | refine S2 ?_ | refine S7 ?_ | refine S8 ?_ | refine S19 ?_ | refine S20 ?_ | refine S35 ?_ | refine S54 ?_)
  exact ⟨.inr rfl, .cl rfl⟩
set_option maxHeartbeats 2000000 in
set_option maxRecDepth 100000 in
theorem rindex_s (x : Int) (h : -9000000000000000000 ≤ x ∧ x ≤ 9000000000000000000) : SC Try.prog 73 [pint x] (pint (absI x)) := by
  refine SC.go {} tok mixed Try.func73 rfl rfl Try.ntmps73 rfl rfl (by kernel_rfl) ?_
  first | simp only [updS] | simp only [updL, Nat.reduceAdd]
  repeat (first | refine S0 ?_ | refine S1 ?_ | refine S2 ?_ | refine S7 ?_ | refine S8 ?_ | refine S19 ?_ | refine S20 ?_ | refine S35 ?_ | refine S54 ?_)
  exact ⟨.inr rfl, .cl rfl⟩
end Go.Proofs.Ytgjfpmjllpgadaa
