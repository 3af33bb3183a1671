/- Facts and contracts that the claim uses. No condition of its own. -/
import Derived.Test.YtkmkcbkfakoomaaGRingCoursesBX
import Derived.Test.YtkmkcbkfakoomaaGRingCoursesBA
import Derived.Test.YtkmkcbkfakoomaaGRingCoursesAZ
import Derived.Test.YtkmkcbkfakoomaaGRingCoursesBV
import Derived.Test.YtkmkcbkfakoomaaGRingCoursesBK
set_option linter.unusedVariables false
set_option linter.unusedSimpArgs false
namespace Go.Proofs.Ytkmkcbkfakoomaa
open Go.RowKit
end Go.Proofs.Ytkmkcbkfakoomaa

/- Facts and contracts that the claim uses. No condition of its own. -/
set_option linter.unusedVariables false
set_option linter.unusedSimpArgs false
namespace Go.Proofs.Ytkmkcbkfakoomaa
open Go.RowKit
theorem pow_pos {xs : List Int} (hp : Pm xs) {k : Int} (hk : 0 ≤ k) : tabN xs.length (itr (fn xs) (k.toNat % orderOf xs)) = powT xs k := by
  unfold powT; rw [if_pos hk]
  exact tab_ext (fun i hi => pow_mod hp hi _)
end Go.Proofs.Ytkmkcbkfakoomaa

/- Facts and contracts that the claim uses. No condition of its own. -/
set_option linter.unusedVariables false
set_option linter.unusedSimpArgs false
namespace Go.Proofs.Ytkmkcbkfakoomaa
open Go.RowKit
set_option maxHeartbeats 4000000 in
set_option maxRecDepth 100000 in
theorem period_s {xs : List Int} (hf : permFault xs = 0) : SC Try.prog 19 [pli xs] (pint (orderOf xs)) := by
  obtain ⟨h9, hp⟩ := permFault_pm hf
  obtain ⟨ho1, ho2⟩ := order_bd hf
  have hx1 : tabN xs.length (itr (fn xs) 1) = xs := (itr_1 (fn xs) xs.length).trans hp.tabN.symm
  refine SC.go {} tok mixed Try.func19 rfl rfl Try.ntmps19 rfl rfl (by kernel_rfl) ?_
  first | simp only [updS] | simp only [updL, Nat.reduceAdd]
  repeat (first | refine S0 ?_ | refine S1 ?_ | refine S2 ?_ | refine S4 ?_ | refine S5 ?_ | refine S6 ?_ | refine S7 ?_ | refine S8 ?_ | refine S10 ?_ | refine S11 ?_ | refine S13 ?_ | refine S15 ?_ | refine S16 ?_ | refine S19 ?_ | refine S20 ?_ | refine S22 ?_ | refine S23 ?_ | refine S36 ?_)
  refine CW.loopS (fun k : Nat => 1 ≤ k ∧ k ≤ orderOf xs) (fun k => [(0, pli xs), (3, pint k), (4, pli (tabN xs.length (itr (fn xs) k)))]) (fun _ _ => True) (fun k => orderOf xs - k) 1 ⟨⟨Nat.le_refl _, ho1⟩, by simp only; rw [hx1]; exact SLx, trivial⟩ ?_
  rintro k t h ⟨h1, h2⟩ _
  first | simp only [updS] | simp only [updL, Nat.reduceAdd]
  have hRow := row_s xs.length h9
  have hEq := equal_s (tabN xs.length (itr (fn xs) k)) (tabN xs.length id)
  have hAf := after_s (n := xs.length) (m := xs.length) (F := itr (fn xs) k) (G := fn xs) rfl hp.tabN (fun i hi => itr_lt hp.lt k i hi) h9 h9
  have hstep : tabN xs.length (fun i => fn xs (itr (fn xs) k i)) = tabN xs.length (itr (fn xs) (k + 1)) := rfl
  rw [hstep] at hAf
  repeat (first | refine S0 ?_ | refine S1 ?_ | refine S2 ?_ | refine S4 ?_ | refine S5 ?_ | refine S6 ?_ | refine S7 ?_ | refine S8 ?_ | refine S10 ?_ | refine S11 ?_ | refine S13 ?_ | refine S15 ?_ | refine S16 ?_ | refine S19 ?_ | refine S20 ?_ | refine S22 ?_ | refine S23 ?_ | refine S36 ?_)
  refine Scall (args := [pint xs.length]) hRow ?_
  repeat (first | refine S0 ?_ | refine S1 ?_ | refine S2 ?_ | refine S4 ?_ | refine S5 ?_ | refine S6 ?_ | refine S7 ?_ | refine S8 ?_ | refine S10 ?_ | refine S11 ?_ | refine S13 ?_ | refine S15 ?_ | refine S16 ?_ | refine S19 ?_ | refine S20 ?_ | refine S22 ?_ | refine S23 ?_ | refine S36 ?_)
  refine Scall (args := [pli (tabN xs.length (itr (fn xs) k)), pli (tabN xs.length id)]) hEq ?_
  by_cases he : tabN xs.length (itr (fn xs) k) = tabN xs.length id
  · obtain rfl : k = orderOf xs := by
      have := Nat.le_of_dvd (by omega) (order_dvd hp (m := k) (fun i hi => by
        have e := congrArg (fun l => l.getD i 0) he
        simp only [tabN_get hi, id] at e
        exact_mod_cast e))
      omega
    rw [decide_eq_true he]
    repeat (first | refine S0 ?_ | refine S1 ?_ | refine S2 ?_ | refine S4 ?_ | refine S5 ?_ | refine S6 ?_ | refine S7 ?_ | refine S8 ?_ | refine S10 ?_ | refine S11 ?_ | refine S13 ?_ | refine S15 ?_ | refine S16 ?_ | refine S19 ?_ | refine S20 ?_ | refine S22 ?_ | refine S23 ?_ | refine S36 ?_)
    exact ⟨.inr rfl, .cl rfl⟩
  · rw [decide_eq_false he]
    have hlt : k < orderOf xs := by
      apply Classical.byContradiction; intro hc
      obtain rfl : k = orderOf xs := by omega
      exact he (tab_ext (fun i hi => order_id hp hi))
    repeat (first | refine S0 ?_ | refine S1 ?_ | refine S2 ?_ | refine S4 ?_ | refine S5 ?_ | refine S6 ?_ | refine S7 ?_ | refine S8 ?_ | refine S10 ?_ | refine S11 ?_ | refine S13 ?_ | refine S15 ?_ | refine S16 ?_ | refine S19 ?_ | refine S20 ?_ | refine S22 ?_ | refine S23 ?_ | refine S36 ?_)
    refine Scall (args := [pli (tabN xs.length (itr (fn xs) k)), pli xs]) hAf ?_
    repeat (first | refine S0 ?_ | refine S1 ?_ | refine S2 ?_ | refine S4 ?_ | refine S5 ?_ | refine S6 ?_ | refine S7 ?_ | refine S8 ?_ | refine S10 ?_ | refine S11 ?_ | refine S13 ?_ | refine S15 ?_ | refine S16 ?_ | refine S19 ?_ | refine S20 ?_ | refine S22 ?_ | refine S23 ?_ | refine S36 ?_)
    exact ⟨k + 1, ⟨by omega, by omega⟩, SLx, trivial, by omega⟩
end Go.Proofs.Ytkmkcbkfakoomaa
