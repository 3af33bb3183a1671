/- The law MatrixDets holds for all matrices. No condition of its own. -/
import Derived.Test.YteecmiagfjjefaaGMatrixSolutionsBW
set_option linter.unusedVariables false
set_option linter.unusedSimpArgs false
namespace Go.Proofs.Yteecmiagfjjefaa
open Go.RowKit

/-- the capacities forgotten, two levels deep -/
def PV.nrm1 : PV → PV
  | .lst _ sz n cs => .lst false sz n (cs.map PV.nrm0)
  | p => p
theorem V.nrm1 {ρ : Pl} {Z : Nat → Prop} {w : World} {p : PV} {u : Value} (h : V ρ Z w p u) : V ρ Z w p.nrm1 u := by
  unfold PV.nrm1
  split
  · obtain ⟨cap, A, f, rfl, g1, g2, g3, g4, g5, g6⟩ := h.lst_inv
    refine .lst _ _ _ cap _ _ f g1 (fun hh => by cases hh) g3 (by rw [List.length_map]; exact g4) (fun hne => ?_) (fun i hi => ?_)
    · obtain ⟨b, o, k1, k2, k3, k4⟩ := g5 (fun e => hne (by rw [e]; rfl))
      exact ⟨b, o, k1, k2, k3, fun i hi => k4 i (by simpa using hi)⟩
    · rw [List.length_map] at hi
      have := (g6 i hi).nrm0
      simp only [List.getD, List.getElem?_map, List.getElem?_eq_getElem hi, Option.map_some, Option.getD_some] at this ⊢
      exact this
  · exact h
/-- a contract for arguments whose capacities are forgotten -/
theorem SC.nrmA {P : Program} {f : FuncId} {args : List PV} {r : PV} (h : SC P f (args.map PV.nrm1) r) : SC P f args r :=
  ⟨h.1, fun Z w vs hz hvs hv => h.2 Z w vs hz (by simpa using hvs) (fun i hi => by
    have hi' : i < args.length := by simpa using hi
    have := (hv i hi').nrm1
    rw [show (args.map PV.nrm1).getD i .junk = (args.getD i .junk).nrm1 by simp [List.getD, hi']]
    exact this)⟩
def mEx : List (List Int) := [[2, 0], [0, 3]]
theorem mEx_ok : mF mEx = 0 := by decide
theorem mEx_det : lap (ent mEx) (List.range 2) (List.range 2) = 6 := by decide
theorem mEx_fac : facs (gD mEx 2 2) 2 = [1, 6] := by decide +kernel
set_option maxHeartbeats 16000000 in
set_option maxRecDepth 100000 in
theorem reckoned_s : SC Try.prog 8 [] (.sc (.bool true)) := by
  have hM : Mx mEx 2 2 := mF_ok mEx_ok
  have k1 := mdet_s hM mEx_ok
  rw [mEx_det] at k1
  have k2 := smithE_s hM mEx_ok (gD_dv mEx 2 2)
  rw [show Min.min 2 2 = 2 from rfl, mEx_fac] at k2
  have k3 := equal_refl [1, 6]
  have hn : [PV.lst true 1 2 [plt [2, 0], plt [0, 3]]].map PV.nrm1 = [plls mEx] := by simp [PV.nrm0, PV.nrm1, plt, plls, pli, ints, mEx]
  have hn2 : [pli [1, 6], plt [1, 6]].map PV.nrm1 = [pli [1, 6], pli [1, 6]] := by simp [PV.nrm0, PV.nrm1, plt, pli, ints]
  rw [← hn] at k1 k2
  rw [← hn2] at k3
  refine SC.go {} tok mixed Try.func8 rfl rfl Try.ntmps8 rfl rfl (by kernel_rfl) ?_
  first | simp only [updS] | simp only [updL, Nat.reduceAdd]
  repeat (first | refine S0 ?_ | refine S1 ?_ | refine S2 ?_ | refine S5 ?_ | refine S7 ?_ | refine S8 ?_ | refine S15 ?_ | refine S16 ?_ | refine S19 ?_ | refine S20 ?_ | refine S23 ?_ | refine S25 ?_ | refine S26 ?_ | refine S28 ?_ | refine S29 ?_ | refine S30 ?_ | refine S34 ?_ | refine S36 ?_ | refine S37 ?_ | refine S38 ?_ | refine S40 ?_ | refine S41 ?_ | refine S49 ?_)
  refine Scall (args := [.lst true 1 2 [plt [2, 0], plt [0, 3]]]) (SC.nrmA k1) ?_
  repeat (first | refine S0 ?_ | refine S1 ?_ | refine S2 ?_ | refine S5 ?_ | refine S7 ?_ | refine S8 ?_ | refine S15 ?_ | refine S16 ?_ | refine S19 ?_ | refine S20 ?_ | refine S23 ?_ | refine S25 ?_ | refine S26 ?_ | refine S28 ?_ | refine S29 ?_ | refine S30 ?_ | refine S34 ?_ | refine S36 ?_ | refine S37 ?_ | refine S38 ?_ | refine S40 ?_ | refine S41 ?_ | refine S49 ?_)
  refine Scall (args := [.lst true 1 2 [plt [2, 0], plt [0, 3]]]) (SC.nrmA k2) ?_
  repeat (first | refine S0 ?_ | refine S1 ?_ | refine S2 ?_ | refine S5 ?_ | refine S7 ?_ | refine S8 ?_ | refine S15 ?_ | refine S16 ?_ | refine S19 ?_ | refine S20 ?_ | refine S23 ?_ | refine S25 ?_ | refine S26 ?_ | refine S28 ?_ | refine S29 ?_ | refine S30 ?_ | refine S34 ?_ | refine S36 ?_ | refine S37 ?_ | refine S38 ?_ | refine S40 ?_ | refine S41 ?_ | refine S49 ?_)
  refine Scall (args := [pli [1, 6], plt [1, 6]]) (SC.nrmA k3) ?_
  repeat (first | refine S0 ?_ | refine S1 ?_ | refine S2 ?_ | refine S5 ?_ | refine S7 ?_ | refine S8 ?_ | refine S15 ?_ | refine S16 ?_ | refine S19 ?_ | refine S20 ?_ | refine S23 ?_ | refine S25 ?_ | refine S26 ?_ | refine S28 ?_ | refine S29 ?_ | refine S30 ?_ | refine S34 ?_ | refine S36 ?_ | refine S37 ?_ | refine S38 ?_ | refine S40 ?_ | refine S41 ?_ | refine S49 ?_)
  exact ⟨.inr rfl, .cl rfl⟩
end Go.Proofs.Yteecmiagfjjefaa
