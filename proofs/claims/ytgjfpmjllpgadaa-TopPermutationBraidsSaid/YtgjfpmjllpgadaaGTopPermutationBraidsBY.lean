/- timbtop.equal, by the kernel's run of garside.Equal and the images of artin. No condition of its own. -/
import Derived.Test.YtgjfpmjllpgadaaGTopPermutationBraidsBD
import Derived.Test.YtgjfpmjllpgadaaGTopPermutationBraidsBX
import Derived.Test.YtgjfpmjllpgadaaGTopPermutationBraidsBR
set_option linter.unusedVariables false
set_option linter.unusedSimpArgs false
namespace Go.Proofs.Ytgjfpmjllpgadaa
open Go.RowKit

theorem img_ne : imgT 3 [1, 2] ≠ imgT 3 [2, 1] := by decide
set_option maxHeartbeats 4000000 in
set_option maxRecDepth 100000 in
theorem aequal_t : SC Try.prog 113 [pint 3, pli [1, 2], pli [2, 1]] (.tup [.sc (.bool false), pint 0]) := by
  have k1 := images_s (N := 3) (w := [1, 2]) (by decide) (by decide)
  have k2 := images_s (N := 3) (w := [2, 1]) (by decide) (by decide)
  have k3 := equalFuncL_s (b1 := false) (b2 := false) (us := imgT 3 [1, 2]) (vs := imgT 3 [2, 1]) (by decide) (by decide) (fun x y => equal_s x y)
  rw [decide_eq_false img_ne] at k3
  generalize imgT 3 [1, 2] = I at k1 k3
  generalize imgT 3 [2, 1] = J at k2 k3
  refine SC.go {} tok mixed Try.func113 rfl rfl Try.ntmps113 rfl rfl (by kernel_rfl) ?_
  first | simp only [updS] | simp only [updL, Nat.reduceAdd]
  repeat (first | refine S0 ?_ | refine S1 ?_ | refine S2 ?_ | refine S5 ?_ | refine S7 ?_ | refine S8 ?_ | refine S16 ?_ | refine S19 ?_ | refine S20 ?_ | refine S28 ?_ | refine S29 ?_ | refine S34 ?_ | refine S36 ?_ | refine S37 ?_ | refine S40 ?_ | refine S49 ?_)
  refine Scall (args := [pint 3, pli [1, 2]]) k1 ?_
  repeat (first | refine S0 ?_ | refine S1 ?_ | refine S2 ?_ | refine S5 ?_ | refine S7 ?_ | refine S8 ?_ | refine S16 ?_ | refine S19 ?_ | refine S20 ?_ | refine S28 ?_ | refine S29 ?_ | refine S34 ?_ | refine S36 ?_ | refine S37 ?_ | refine S40 ?_ | refine S49 ?_)
  refine Scall (args := [pint 3, pli [2, 1]]) k2 ?_
  repeat (first | refine S0 ?_ | refine S1 ?_ | refine S2 ?_ | refine S5 ?_ | refine S7 ?_ | refine S8 ?_ | refine S16 ?_ | refine S19 ?_ | refine S20 ?_ | refine S28 ?_ | refine S29 ?_ | refine S34 ?_ | refine S36 ?_ | refine S37 ?_ | refine S40 ?_ | refine S49 ?_)
  refine Scall (args := [plls I, plls J, .clo 20 []]) k3 ?_
  repeat (first | refine S0 ?_ | refine S1 ?_ | refine S2 ?_ | refine S5 ?_ | refine S7 ?_ | refine S8 ?_ | refine S16 ?_ | refine S19 ?_ | refine S20 ?_ | refine S28 ?_ | refine S29 ?_ | refine S34 ?_ | refine S36 ?_ | refine S37 ?_ | refine S40 ?_ | refine S49 ?_)
  exact ⟨.inr rfl, .cl rfl⟩
set_option maxHeartbeats 4000000 in
set_option maxRecDepth 100000 in
theorem equalT_s : SC Try.prog 60 [] (.sc (.bool true)) := by
  have k1 : SC Try.prog 51 [pint 3, plt [1, 2, 1], plt [2, 1, 2]] (.tup [.sc (.bool true), pint 0]) := SC.weak gequal_t rfl
  have k2 : SC Try.prog 113 [pint 3, plt [1, 2], plt [2, 1]] (.tup [.sc (.bool false), pint 0]) := SC.weak aequal_t rfl
  refine SC.go {} tok mixed Try.func60 rfl rfl Try.ntmps60 rfl rfl (by kernel_rfl) ?_
  first | simp only [updS] | simp only [updL, Nat.reduceAdd]
  repeat (first | refine S0 ?_ | refine S1 ?_ | refine S2 ?_ | refine S5 ?_ | refine S7 ?_ | refine S8 ?_ | refine S16 ?_ | refine S19 ?_ | refine S20 ?_ | refine S28 ?_ | refine S29 ?_ | refine S34 ?_ | refine S36 ?_ | refine S37 ?_ | refine S40 ?_ | refine S49 ?_)
  refine Scall (args := [pint 3, plt [1, 2, 1], plt [2, 1, 2]]) k1 ?_
  repeat (first | refine S0 ?_ | refine S1 ?_ | refine S2 ?_ | refine S5 ?_ | refine S7 ?_ | refine S8 ?_ | refine S16 ?_ | refine S19 ?_ | refine S20 ?_ | refine S28 ?_ | refine S29 ?_ | refine S34 ?_ | refine S36 ?_ | refine S37 ?_ | refine S40 ?_ | refine S49 ?_)
  refine Scall (args := [pint 3, plt [1, 2], plt [2, 1]]) k2 ?_
  repeat (first | refine S0 ?_ | refine S1 ?_ | refine S2 ?_ | refine S5 ?_ | refine S7 ?_ | refine S8 ?_ | refine S16 ?_ | refine S19 ?_ | refine S20 ?_ | refine S28 ?_ | refine S29 ?_ | refine S34 ?_ | refine S36 ?_ | refine S37 ?_ | refine S40 ?_ | refine S49 ?_)
  exact ⟨.inr rfl, .cl rfl⟩
end Go.Proofs.Ytgjfpmjllpgadaa
