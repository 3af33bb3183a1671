/- Facts and contracts that the claim uses. No condition of its own. -/
import Derived.Test.YtkmkcbkfakoomaaGRingRowsBB
import Derived.Test.YtkmkcbkfakoomaaGRingRowsAT
set_option linter.unusedVariables false
set_option linter.unusedSimpArgs false
namespace Go.Proofs.Ytkmkcbkfakoomaa
open Go.RowKit
def LF (b : Bool) (xs : List Int) : PV := .lst b 1 xs.length (ints xs)
theorem LF_cl (b : Bool) (xs : List Int) : (LF b xs).cl = true := by simp [LF, PV.cl, ints_cl]
theorem LFs_cl (b : Bool) (l : List (List Int)) : PV.cl.clL (l.map (LF b)) = true := clL_mem.2 (fun c hc => by obtain ⟨x, _, rfl⟩ := List.mem_map.1 hc; exact LF_cl b x)
theorem LF_nrm (b : Bool) (xs : List Int) : (LF b xs).nrm = pli xs := by
  unfold LF PV.nrm PV.nrm0
  rfl
set_option maxHeartbeats 2000000 in
set_option maxRecDepth 100000 in
theorem equalFuncG_s {b1 b2 c1 c2 : Bool} {us vs : List (List Int)} {f : FuncId} (hx : us.length ≤ 1000000000) (hy : vs.length ≤ 1000000000) (hf : ∀ x y : List Int, SC Try.prog f [pli x, pli y] (.sc (.bool (decide (x = y))))) :
    SC Try.prog 32 [.lst b1 1 us.length (us.map (LF c1)), .lst b2 1 vs.length (vs.map (LF c2)), .clo f []] (.sc (.bool (decide (us = vs)))) := by
  refine SC.go {} tok mixed Try.func32 rfl rfl Try.ntmps32 rfl rfl (by kernel_rfl) ?_
  first | simp only [updS] | simp only [updL, Nat.reduceAdd]
  by_cases hl : us.length = vs.length
  · repeat (first | refine S0 ?_ | refine S1 ?_ | refine S2 ?_ | refine S4 ?_ | refine S5 ?_ | refine S6 ?_ | refine S7 ?_ | refine S8 ?_ | refine S9 ?_ | refine S10 ?_ | refine S11 ?_ | refine S12 ?_ | refine S13 ?_ | refine S15 ?_ | refine S16 ?_ | refine S19 ?_ | refine S20 ?_ | refine S21 ?_ | refine S22 ?_ | refine S23 ?_ | refine S25 ?_ | refine S26 ?_ | refine S29 ?_ | refine S36 ?_)
    refine CW.loopS (fun k : Nat => k ≤ us.length ∧ us.take k = vs.take k) (fun k => [(1, .lst b2 1 vs.length (vs.map (LF c2))), (2, .clo f []), (15, .lst b1 1 us.length (us.map (LF c1))), (16, pint us.length), (17, pint k)]) (fun _ _ => True) (fun k => us.length - k) 0 ⟨⟨Nat.zero_le _, rfl⟩, SLx, trivial⟩ ?_
    rintro k t h ⟨hk, hg⟩ _
    first | simp only [updS] | simp only [updL, Nat.reduceAdd]
    by_cases hk2 : k < us.length
    · have hs : SC Try.prog f [LF c1 (us.getD k []), LF c2 (vs.getD k [])] (.sc (.bool (decide (us.getD k [] = vs.getD k [])))) := SC.weak (hf (us.getD k []) (vs.getD k [])) (by simp only [List.map_cons, List.map_nil, LF_nrm])
      by_cases he : us.getD k [] = vs.getD k []
      · rw [decide_eq_true he] at hs
        repeat (first | refine S0 ?_ | refine S1 ?_ | refine S2 ?_ | refine S4 ?_ | refine S5 ?_ | refine S6 ?_ | refine S7 ?_ | refine S8 ?_ | refine S9 ?_ | refine S10 ?_ | refine S11 ?_ | refine S12 ?_ | refine S13 ?_ | refine S15 ?_ | refine S16 ?_ | refine S19 ?_ | refine S20 ?_ | refine S21 ?_ | refine S22 ?_ | refine S23 ?_ | refine S25 ?_ | refine S26 ?_ | refine S29 ?_ | refine S36 ?_)
        refine Scallv (args := [LF c1 (us.getD k []), LF c2 (vs.getD k [])]) hs ?_ (hc := by simp only [PV.cl.clL, LF_cl]; rfl)
        repeat (first | refine S0 ?_ | refine S1 ?_ | refine S2 ?_ | refine S4 ?_ | refine S5 ?_ | refine S6 ?_ | refine S7 ?_ | refine S8 ?_ | refine S9 ?_ | refine S10 ?_ | refine S11 ?_ | refine S12 ?_ | refine S13 ?_ | refine S15 ?_ | refine S16 ?_ | refine S19 ?_ | refine S20 ?_ | refine S21 ?_ | refine S22 ?_ | refine S23 ?_ | refine S25 ?_ | refine S26 ?_ | refine S29 ?_ | refine S36 ?_)
        refine ⟨k + 1, ⟨by omega, ?_⟩, SLx, trivial, by omega⟩
        rw [getD_lt [] hk2, getD_lt [] (show k < vs.length by omega)] at he
        rw [List.take_succ_eq_append_getElem hk2, List.take_succ_eq_append_getElem (show k < vs.length by omega), hg, he]
      · rw [decide_eq_false he] at hs
        repeat (first | refine S0 ?_ | refine S1 ?_ | refine S2 ?_ | refine S4 ?_ | refine S5 ?_ | refine S6 ?_ | refine S7 ?_ | refine S8 ?_ | refine S9 ?_ | refine S10 ?_ | refine S11 ?_ | refine S12 ?_ | refine S13 ?_ | refine S15 ?_ | refine S16 ?_ | refine S19 ?_ | refine S20 ?_ | refine S21 ?_ | refine S22 ?_ | refine S23 ?_ | refine S25 ?_ | refine S26 ?_ | refine S29 ?_ | refine S36 ?_)
        refine Scallv (args := [LF c1 (us.getD k []), LF c2 (vs.getD k [])]) hs ?_ (hc := by simp only [PV.cl.clL, LF_cl]; rfl)
        repeat (first | refine S0 ?_ | refine S1 ?_ | refine S2 ?_ | refine S4 ?_ | refine S5 ?_ | refine S6 ?_ | refine S7 ?_ | refine S8 ?_ | refine S9 ?_ | refine S10 ?_ | refine S11 ?_ | refine S12 ?_ | refine S13 ?_ | refine S15 ?_ | refine S16 ?_ | refine S19 ?_ | refine S20 ?_ | refine S21 ?_ | refine S22 ?_ | refine S23 ?_ | refine S25 ?_ | refine S26 ?_ | refine S29 ?_ | refine S36 ?_)
        rw [show decide (us = vs) = false from decide_eq_false (fun e => he (by rw [e]))]
        exact ⟨.inr rfl, .cl rfl⟩
    · repeat (first | refine S0 ?_ | refine S1 ?_ | refine S2 ?_ | refine S4 ?_ | refine S5 ?_ | refine S6 ?_ | refine S7 ?_ | refine S8 ?_ | refine S9 ?_ | refine S10 ?_ | refine S11 ?_ | refine S12 ?_ | refine S13 ?_ | refine S15 ?_ | refine S16 ?_ | refine S19 ?_ | refine S20 ?_ | refine S21 ?_ | refine S22 ?_ | refine S23 ?_ | refine S25 ?_ | refine S26 ?_ | refine S29 ?_ | refine S36 ?_)
      have e : us = vs := by rw [List.take_of_length_le (by omega), List.take_of_length_le (by omega)] at hg; exact hg
      rw [show decide (us = vs) = true from decide_eq_true e]
      exact ⟨.inr rfl, .cl rfl⟩
  · repeat (first | refine S0 ?_ | refine S1 ?_ | refine S2 ?_ | refine S4 ?_ | refine S5 ?_ | refine S6 ?_ | refine S7 ?_ | refine S8 ?_ | refine S9 ?_ | refine S10 ?_ | refine S11 ?_ | refine S12 ?_ | refine S13 ?_ | refine S15 ?_ | refine S16 ?_ | refine S19 ?_ | refine S20 ?_ | refine S21 ?_ | refine S22 ?_ | refine S23 ?_ | refine S25 ?_ | refine S26 ?_ | refine S29 ?_ | refine S36 ?_)
    rw [show decide (us = vs) = false from decide_eq_false (fun e => hl (by rw [e]))]
    exact ⟨.inr rfl, .cl rfl⟩
set_option maxHeartbeats 1000000 in
set_option maxRecDepth 100000 in
theorem lists1_s (a b : List Int) : SC Try.prog 33 [pli a, pli b] (.sc (.bool (decide (a = b)))) := by
  refine SC.go {} tok mixed Try.func33 rfl rfl Try.ntmps33 rfl rfl (by kernel_rfl) ?_
  first | simp only [updS] | simp only [updL, Nat.reduceAdd]
  repeat (first | refine S0 ?_ | refine S1 ?_ | refine S2 ?_ | refine S7 ?_ | refine S8 ?_ | refine S19 ?_ | refine S20 ?_)
  refine Scall (args := [pli a, pli b]) (equal_s a b) ?_
  repeat (first | refine S0 ?_ | refine S1 ?_ | refine S2 ?_ | refine S7 ?_ | refine S8 ?_ | refine S19 ?_ | refine S20 ?_)
  exact ⟨.inr rfl, .cl rfl⟩
set_option maxHeartbeats 1000000 in
set_option maxRecDepth 100000 in
theorem lists_g {b1 b2 c1 c2 : Bool} {a b : List (List Int)} (ha : a.length ≤ 1000000000) (hb : b.length ≤ 1000000000) : SC Try.prog 14 [.lst b1 1 a.length (a.map (LF c1)), .lst b2 1 b.length (b.map (LF c2))] (.sc (.bool (decide (a = b)))) := by
  have hE := equalFuncG_s (b1 := b1) (b2 := b2) (c1 := c1) (c2 := c2) ha hb lists1_s
  refine SC.go {} tok mixed Try.func14 rfl rfl Try.ntmps14 rfl rfl (by kernel_rfl) ?_
  first | simp only [updS] | simp only [updL, Nat.reduceAdd]
  repeat (first | refine S0 ?_ | refine S1 ?_ | refine S2 ?_ | refine S7 ?_ | refine S8 ?_ | refine S19 ?_ | refine S20 ?_)
  refine Scall (args := [.lst b1 1 a.length (a.map (LF c1)), .lst b2 1 b.length (b.map (LF c2)), .clo 33 []]) hE ?_ (hc := by simp only [PV.cl.clL, PV.cl, LFs_cl]; rfl)
  repeat (first | refine S0 ?_ | refine S1 ?_ | refine S2 ?_ | refine S7 ?_ | refine S8 ?_ | refine S19 ?_ | refine S20 ?_)
  exact ⟨.inr rfl, .cl rfl⟩
end Go.Proofs.Ytkmkcbkfakoomaa
