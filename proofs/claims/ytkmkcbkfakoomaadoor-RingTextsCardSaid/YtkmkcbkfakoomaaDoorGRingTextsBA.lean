/- Facts and contracts that the claim uses. No condition of its own. -/
import Derived.Test.YtkmkcbkfakoomaaDoorGRingTextsAX
import Derived.Test.YtkmkcbkfakoomaaDoorGRingTextsAY
import Derived.Test.YtkmkcbkfakoomaaDoorGRingTextsAZ
set_option linter.unusedVariables false
set_option linter.unusedSimpArgs false
namespace Go.Proofs.YtkmkcbkfakoomaaDoor
open Go.RowKit
theorem take_eq_succ {xs ys : List Int} {k : Nat} (h1 : k < xs.length) (h2 : k < ys.length) (h : xs.take k = ys.take k) (he : xs.getD k 0 = ys.getD k 0) : xs.take (k + 1) = ys.take (k + 1) := by
  rw [List.take_succ_eq_append_getElem h1, List.take_succ_eq_append_getElem h2, h, ← getD_lt 0 h1, ← getD_lt 0 h2, he]
set_option maxHeartbeats 1000000 in
set_option maxRecDepth 100000 in
theorem equal_s (xs ys : List Int) : SC Tryd.prog 10 [pli xs, pli ys] (.sc (.bool (decide (xs = ys)))) := by
  refine SC.len (callable Tryd.func10 rfl rfl) (fun hlen => ?_)
  have hx : xs.length ≤ 9223372036854775807 := hlen (pli xs) (by simp)
  clear hlen
  refine SC.go {} tok mixed Tryd.func10 rfl rfl Tryd.ntmps10 rfl rfl (by kernel_rfl) ?_
  first | simp only [updS] | simp only [updL, Nat.reduceAdd]
  by_cases hl : xs.length = ys.length
  · repeat (first | refine S0 ?_ | refine S1 ?_ | refine S2 ?_ | refine S3 ?_ | refine S4 ?_ | refine S5 ?_ | refine S6 ?_ | refine S7 ?_ | refine S8 ?_ | refine S9 ?_ | refine S10 ?_ | refine S11 ?_ | refine S12 ?_ | refine S13 ?_ | refine S15 ?_ | refine S16 ?_ | refine S19 ?_ | refine S20 ?_ | refine S21 ?_ | refine S22 ?_ | refine S23 ?_ | refine S25 ?_ | refine S26 ?_ | refine S29 ?_)
    refine CW.loopS (fun k : Nat => k ≤ xs.length ∧ xs.take k = ys.take k) (fun k => [(0, pli xs), (1, pli ys), (12, pint xs.length), (13, pint k)]) (fun _ _ => True) (fun k => xs.length - k) 0 ⟨⟨by omega, rfl⟩, SLx, trivial⟩ ?_
    intro k t h ⟨hk, hg⟩ _
    first | simp only [updS] | simp only [updL, Nat.reduceAdd]
    by_cases hk2 : k < xs.length
    · by_cases he : xs.getD k 0 = ys.getD k 0
      · repeat (first | refine S0 ?_ | refine S1 ?_ | refine S2 ?_ | refine S3 ?_ | refine S4 ?_ | refine S5 ?_ | refine S6 ?_ | refine S7 ?_ | refine S8 ?_ | refine S9 ?_ | refine S10 ?_ | refine S11 ?_ | refine S12 ?_ | refine S13 ?_ | refine S15 ?_ | refine S16 ?_ | refine S19 ?_ | refine S20 ?_ | refine S21 ?_ | refine S22 ?_ | refine S23 ?_ | refine S25 ?_ | refine S26 ?_ | refine S29 ?_)
        exact ⟨k + 1, ⟨by omega, take_eq_succ hk2 (by omega) hg he⟩, SLx, trivial, by omega⟩
      · repeat (first | refine S0 ?_ | refine S1 ?_ | refine S2 ?_ | refine S3 ?_ | refine S4 ?_ | refine S5 ?_ | refine S6 ?_ | refine S7 ?_ | refine S8 ?_ | refine S9 ?_ | refine S10 ?_ | refine S11 ?_ | refine S12 ?_ | refine S13 ?_ | refine S15 ?_ | refine S16 ?_ | refine S19 ?_ | refine S20 ?_ | refine S21 ?_ | refine S22 ?_ | refine S23 ?_ | refine S25 ?_ | refine S26 ?_ | refine S29 ?_)
        refine ⟨.inr rfl, ?_⟩
        rw [show decide (xs = ys) = false from decide_eq_false (fun e => he (by rw [e]))]
        exact .cl rfl
    · repeat (first | refine S0 ?_ | refine S1 ?_ | refine S2 ?_ | refine S3 ?_ | refine S4 ?_ | refine S5 ?_ | refine S6 ?_ | refine S7 ?_ | refine S8 ?_ | refine S9 ?_ | refine S10 ?_ | refine S11 ?_ | refine S12 ?_ | refine S13 ?_ | refine S15 ?_ | refine S16 ?_ | refine S19 ?_ | refine S20 ?_ | refine S21 ?_ | refine S22 ?_ | refine S23 ?_ | refine S25 ?_ | refine S26 ?_ | refine S29 ?_)
      refine ⟨.inr rfl, ?_⟩
      have e : xs = ys := by rw [List.take_of_length_le (by omega), List.take_of_length_le (by omega)] at hg; exact hg
      rw [show decide (xs = ys) = true from decide_eq_true e]
      exact .cl rfl
  · repeat (first | refine S0 ?_ | refine S1 ?_ | refine S2 ?_ | refine S3 ?_ | refine S4 ?_ | refine S5 ?_ | refine S6 ?_ | refine S7 ?_ | refine S8 ?_ | refine S9 ?_ | refine S10 ?_ | refine S11 ?_ | refine S12 ?_ | refine S13 ?_ | refine S15 ?_ | refine S16 ?_ | refine S19 ?_ | refine S20 ?_ | refine S21 ?_ | refine S22 ?_ | refine S23 ?_ | refine S25 ?_ | refine S26 ?_ | refine S29 ?_)
    refine ⟨.inr rfl, ?_⟩
    rw [show decide (xs = ys) = false from decide_eq_false (fun e => hl (by rw [e]))]
    exact .cl rfl
set_option maxHeartbeats 1000000 in
set_option maxRecDepth 100000 in
theorem clip_s (xs : List Int) : SC Tryd.prog 14 [pli xs] (.lst true 1 xs.length (ints xs)) := by
  refine SC.go {} tok mixed Tryd.func14 rfl rfl Tryd.ntmps14 rfl rfl (by kernel_rfl) ?_
  first | simp only [updS] | simp only [updL, Nat.reduceAdd]
  repeat (first | refine S0 ?_ | refine S1 ?_ | refine S2 ?_ | refine S7 ?_ | refine S8 ?_ | refine S19 ?_ | refine S20 ?_ | refine S23 ?_ | refine S58 ?_)
  exact ⟨.inr rfl, .cl (by exact (show (PV.lst true 1 xs.length (ints xs)).cl = true by simp [PV.cl, ints_cl]))⟩
end Go.Proofs.YtkmkcbkfakoomaaDoor
