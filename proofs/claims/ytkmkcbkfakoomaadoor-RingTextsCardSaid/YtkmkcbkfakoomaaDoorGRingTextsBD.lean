/- Facts and contracts that the claim uses. No condition of its own. -/
import Derived.Test.YtkmkcbkfakoomaaDoorGRingTextsBA
set_option linter.unusedVariables false
set_option linter.unusedSimpArgs false
namespace Go.Proofs.YtkmkcbkfakoomaaDoor
open Go.RowKit
set_option maxHeartbeats 2000000 in
set_option maxRecDepth 100000 in
theorem indexFunc_none {xs : List Int} {f : FuncId} {cap : List PV} (hx : xs.length ≤ 1000000) (hcl : PV.cl.clL cap = true) (h : ∀ k, k < xs.length → SC Tryd.prog f (pint (xs.getD k 0) :: cap) (.sc (.bool false))) : SC Tryd.prog 22 [pli xs, .clo f cap] (pint (-1)) := by
  refine SC.go {} tok mixed Tryd.func22 rfl rfl Tryd.ntmps22 rfl rfl (by kernel_rfl) ?_
  first | simp only [updS] | simp only [updL, Nat.reduceAdd]
  repeat (first | refine S0 ?_ | refine S1 ?_ | refine S2 ?_ | refine S4 ?_ | refine S5 ?_ | refine S6 ?_ | refine S7 ?_ | refine S8 ?_ | refine S10 ?_ | refine S11 ?_ | refine S13 ?_ | refine S15 ?_ | refine S16 ?_ | refine S19 ?_ | refine S20 ?_ | refine S21 ?_ | refine S22 ?_ | refine S23 ?_ | refine S25 ?_ | refine S26 ?_)
  refine CW.loopS (fun k : Nat => k ≤ xs.length) (fun k => [(0, pli xs), (1, .clo f cap), (7, pint xs.length), (8, pint k)]) (fun _ _ => True) (fun k => xs.length - k) 0 ⟨by omega, SLx, trivial⟩ ?_
  rintro k t hp hk _
  first | simp only [updS] | simp only [updL, Nat.reduceAdd]
  by_cases hk2 : k < xs.length
  · have hs := h k hk2
    repeat (first | refine S0 ?_ | refine S1 ?_ | refine S2 ?_ | refine S4 ?_ | refine S5 ?_ | refine S6 ?_ | refine S7 ?_ | refine S8 ?_ | refine S10 ?_ | refine S11 ?_ | refine S13 ?_ | refine S15 ?_ | refine S16 ?_ | refine S19 ?_ | refine S20 ?_ | refine S21 ?_ | refine S22 ?_ | refine S23 ?_ | refine S25 ?_ | refine S26 ?_)
    refine Scallv (args := pint (xs.getD k 0) :: cap) hs ?_ (hc := by simp only [PV.cl.clL, pint_cl, hcl, Bool.and_self])
    repeat (first | refine S0 ?_ | refine S1 ?_ | refine S2 ?_ | refine S4 ?_ | refine S5 ?_ | refine S6 ?_ | refine S7 ?_ | refine S8 ?_ | refine S10 ?_ | refine S11 ?_ | refine S13 ?_ | refine S15 ?_ | refine S16 ?_ | refine S19 ?_ | refine S20 ?_ | refine S21 ?_ | refine S22 ?_ | refine S23 ?_ | refine S25 ?_ | refine S26 ?_)
    exact ⟨k + 1, by omega, SLx, trivial, by omega⟩
  · repeat (first | refine S0 ?_ | refine S1 ?_ | refine S2 ?_ | refine S4 ?_ | refine S5 ?_ | refine S6 ?_ | refine S7 ?_ | refine S8 ?_ | refine S10 ?_ | refine S11 ?_ | refine S13 ?_ | refine S15 ?_ | refine S16 ?_ | refine S19 ?_ | refine S20 ?_ | refine S21 ?_ | refine S22 ?_ | refine S23 ?_ | refine S25 ?_ | refine S26 ?_)
    exact ⟨.inr rfl, .cl rfl⟩
set_option maxHeartbeats 2000000 in
set_option maxRecDepth 100000 in
theorem indexFunc_some {xs : List Int} {f : FuncId} {cap : List PV} (hx : xs.length ≤ 1000000) (hcl : PV.cl.clL cap = true) {m : Nat} (hm : m < xs.length) (h : ∀ k, k < m → SC Tryd.prog f (pint (xs.getD k 0) :: cap) (.sc (.bool false))) (h2 : SC Tryd.prog f (pint (xs.getD m 0) :: cap) (.sc (.bool true))) : SC Tryd.prog 22 [pli xs, .clo f cap] (pint m) := by
  refine SC.go {} tok mixed Tryd.func22 rfl rfl Tryd.ntmps22 rfl rfl (by kernel_rfl) ?_
  first | simp only [updS] | simp only [updL, Nat.reduceAdd]
  repeat (first | refine S0 ?_ | refine S1 ?_ | refine S2 ?_ | refine S4 ?_ | refine S5 ?_ | refine S7 ?_ | refine S8 ?_ | refine S9 ?_ | refine S11 ?_ | refine S12 ?_ | refine S15 ?_ | refine S16 ?_ | refine S19 ?_ | refine S20 ?_ | refine S21 ?_ | refine S22 ?_ | refine S23 ?_ | refine S25 ?_ | refine S26 ?_)
  refine CW.loopS (fun k : Nat => k ≤ m) (fun k => [(0, pli xs), (1, .clo f cap), (7, pint xs.length), (8, pint k)]) (fun _ _ => True) (fun k => xs.length - k) 0 ⟨by omega, SLx, trivial⟩ ?_
  rintro k t hp hk _
  first | simp only [updS] | simp only [updL, Nat.reduceAdd]
  by_cases hk2 : k < m
  · have hs := h k hk2
    repeat (first | refine S0 ?_ | refine S1 ?_ | refine S2 ?_ | refine S4 ?_ | refine S5 ?_ | refine S7 ?_ | refine S8 ?_ | refine S9 ?_ | refine S11 ?_ | refine S12 ?_ | refine S15 ?_ | refine S16 ?_ | refine S19 ?_ | refine S20 ?_ | refine S21 ?_ | refine S22 ?_ | refine S23 ?_ | refine S25 ?_ | refine S26 ?_)
    refine Scallv (args := pint (xs.getD k 0) :: cap) hs ?_ (hc := by simp only [PV.cl.clL, pint_cl, hcl, Bool.and_self])
    repeat (first | refine S0 ?_ | refine S1 ?_ | refine S2 ?_ | refine S4 ?_ | refine S5 ?_ | refine S7 ?_ | refine S8 ?_ | refine S9 ?_ | refine S11 ?_ | refine S12 ?_ | refine S15 ?_ | refine S16 ?_ | refine S19 ?_ | refine S20 ?_ | refine S21 ?_ | refine S22 ?_ | refine S23 ?_ | refine S25 ?_ | refine S26 ?_)
    exact ⟨k + 1, by omega, SLx, trivial, by omega⟩
  · obtain rfl : k = m := by omega
    repeat (first | refine S0 ?_ | refine S1 ?_ | refine S2 ?_ | refine S4 ?_ | refine S5 ?_ | refine S7 ?_ | refine S8 ?_ | refine S9 ?_ | refine S11 ?_ | refine S12 ?_ | refine S15 ?_ | refine S16 ?_ | refine S19 ?_ | refine S20 ?_ | refine S21 ?_ | refine S22 ?_ | refine S23 ?_ | refine S25 ?_ | refine S26 ?_)
    refine Scallv (args := pint (xs.getD k 0) :: cap) h2 ?_ (hc := by simp only [PV.cl.clL, pint_cl, hcl, Bool.and_self])
    repeat (first | refine S0 ?_ | refine S1 ?_ | refine S2 ?_ | refine S4 ?_ | refine S5 ?_ | refine S7 ?_ | refine S8 ?_ | refine S9 ?_ | refine S11 ?_ | refine S12 ?_ | refine S15 ?_ | refine S16 ?_ | refine S19 ?_ | refine S20 ?_ | refine S21 ?_ | refine S22 ?_ | refine S23 ?_ | refine S25 ?_ | refine S26 ?_)
    exact ⟨.inr rfl, .cl rfl⟩
set_option maxHeartbeats 2000000 in
set_option maxRecDepth 100000 in
theorem containsFunc_x {xs : List Int} {f : FuncId} {cap : List PV} {z : Int} {b : Bool} (hcl : PV.cl.clL cap = true) (h : SC Tryd.prog 22 [pli xs, .clo f cap] (pint z)) (hb : decide (0 ≤ z) = b) : SC Tryd.prog 16 [pli xs, .clo f cap] (.sc (.bool b)) := by
  refine SC.go {} tok mixed Tryd.func16 rfl rfl Tryd.ntmps16 rfl rfl (by kernel_rfl) ?_
  first | simp only [updS] | simp only [updL, Nat.reduceAdd]
  repeat (first | refine S0 ?_ | refine S1 ?_ | refine S2 ?_ | refine S7 ?_ | refine S8 ?_ | refine S19 ?_ | refine S20 ?_ | refine S32 ?_)
  refine Scall (args := [pli xs, .clo f cap]) h ?_ (hc := by simp only [PV.cl.clL, PV.cl, pli_cl, hcl, Bool.and_self])
  repeat (first | refine S0 ?_ | refine S1 ?_ | refine S2 ?_ | refine S7 ?_ | refine S8 ?_ | refine S19 ?_ | refine S20 ?_ | refine S32 ?_)
  rw [hb]
  exact ⟨.inr rfl, .cl rfl⟩
end Go.Proofs.YtkmkcbkfakoomaaDoor
