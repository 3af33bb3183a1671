/- Facts and contracts that the claim uses. No condition of its own. -/
import Derived.Test.YtkmkcbkfakoomaaDoorGRingTextsBA
set_option linter.unusedVariables false
set_option linter.unusedSimpArgs false
namespace Go.Proofs.YtkmkcbkfakoomaaDoor
open Go.RowKit
set_option maxHeartbeats 2000000 in
set_option maxRecDepth 100000 in
theorem index_none {xs : List Int} {x : Int} (hx : xs.length ≤ 1000000) (h : ∀ k, k < xs.length → xs.getD k 0 ≠ x) : SC Tryd.prog 30 [pli xs, pint x] (pint (-1)) := by
  refine SC.go {} tok mixed Tryd.func30 rfl rfl Tryd.ntmps30 rfl rfl (by kernel_rfl) ?_
  first | simp only [updS] | simp only [updL, Nat.reduceAdd]
  repeat (first | refine S0 ?_ | refine S1 ?_ | refine S2 ?_ | refine S4 ?_ | refine S5 ?_ | refine S6 ?_ | refine S7 ?_ | refine S8 ?_ | refine S10 ?_ | refine S11 ?_ | refine S13 ?_ | refine S15 ?_ | refine S16 ?_ | refine S19 ?_ | refine S20 ?_ | refine S21 ?_ | refine S22 ?_ | refine S23 ?_ | refine S25 ?_ | refine S26 ?_ | refine S28 ?_)
  refine CW.loopS (fun k : Nat => k ≤ xs.length) (fun k => [(0, pli xs), (1, pint x), (7, pint xs.length), (8, pint k)]) (fun _ _ => True) (fun k => xs.length - k) 0 ⟨by omega, SLx, trivial⟩ ?_
  rintro k t hp hk _
  first | simp only [updS] | simp only [updL, Nat.reduceAdd]
  by_cases hk2 : k < xs.length
  · have hs := h k hk2
    repeat (first | refine S0 ?_ | refine S1 ?_ | refine S2 ?_ | refine S4 ?_ | refine S5 ?_ | refine S6 ?_ | refine S7 ?_ | refine S8 ?_ | refine S10 ?_ | refine S11 ?_ | refine S13 ?_ | refine S15 ?_ | refine S16 ?_ | refine S19 ?_ | refine S20 ?_ | refine S21 ?_ | refine S22 ?_ | refine S23 ?_ | refine S25 ?_ | refine S26 ?_ | refine S28 ?_)
    exact ⟨k + 1, by omega, SLx, trivial, by omega⟩
  · repeat (first | refine S0 ?_ | refine S1 ?_ | refine S2 ?_ | refine S4 ?_ | refine S5 ?_ | refine S6 ?_ | refine S7 ?_ | refine S8 ?_ | refine S10 ?_ | refine S11 ?_ | refine S13 ?_ | refine S15 ?_ | refine S16 ?_ | refine S19 ?_ | refine S20 ?_ | refine S21 ?_ | refine S22 ?_ | refine S23 ?_ | refine S25 ?_ | refine S26 ?_ | refine S28 ?_)
    exact ⟨.inr rfl, .cl rfl⟩
set_option maxHeartbeats 2000000 in
set_option maxRecDepth 100000 in
theorem index_some {xs : List Int} {x : Int} (hx : xs.length ≤ 1000000) {m : Nat} (hm : m < xs.length) (h : ∀ k, k < m → xs.getD k 0 ≠ x) (h2 : xs.getD m 0 = x) : SC Tryd.prog 30 [pli xs, pint x] (pint m) := by
  refine SC.go {} tok mixed Tryd.func30 rfl rfl Tryd.ntmps30 rfl rfl (by kernel_rfl) ?_
  first | simp only [updS] | simp only [updL, Nat.reduceAdd]
  repeat (first | refine S0 ?_ | refine S1 ?_ | refine S2 ?_ | refine S4 ?_ | refine S5 ?_ | refine S7 ?_ | refine S8 ?_ | refine S9 ?_ | refine S11 ?_ | refine S12 ?_ | refine S15 ?_ | refine S16 ?_ | refine S19 ?_ | refine S20 ?_ | refine S21 ?_ | refine S22 ?_ | refine S23 ?_ | refine S25 ?_ | refine S26 ?_ | refine S28 ?_)
  refine CW.loopS (fun k : Nat => k ≤ m) (fun k => [(0, pli xs), (1, pint x), (7, pint xs.length), (8, pint k)]) (fun _ _ => True) (fun k => xs.length - k) 0 ⟨by omega, SLx, trivial⟩ ?_
  rintro k t hp hk _
  first | simp only [updS] | simp only [updL, Nat.reduceAdd]
  by_cases hk2 : k < m
  · have hs := h k hk2
    repeat (first | refine S0 ?_ | refine S1 ?_ | refine S2 ?_ | refine S4 ?_ | refine S5 ?_ | refine S7 ?_ | refine S8 ?_ | refine S9 ?_ | refine S11 ?_ | refine S12 ?_ | refine S15 ?_ | refine S16 ?_ | refine S19 ?_ | refine S20 ?_ | refine S21 ?_ | refine S22 ?_ | refine S23 ?_ | refine S25 ?_ | refine S26 ?_ | refine S28 ?_)
    exact ⟨k + 1, by omega, SLx, trivial, by omega⟩
  · obtain rfl : k = m := by omega
    repeat (first | refine S0 ?_ | refine S1 ?_ | refine S2 ?_ | refine S4 ?_ | refine S5 ?_ | refine S7 ?_ | refine S8 ?_ | refine S9 ?_ | refine S11 ?_ | refine S12 ?_ | refine S15 ?_ | refine S16 ?_ | refine S19 ?_ | refine S20 ?_ | refine S21 ?_ | refine S22 ?_ | refine S23 ?_ | refine S25 ?_ | refine S26 ?_ | refine S28 ?_)
    exact ⟨.inr rfl, .cl rfl⟩
theorem first_at {xs : List Int} {x : Int} (h : x ∈ xs) : ∃ m, m < xs.length ∧ (∀ k, k < m → xs.getD k 0 ≠ x) ∧ xs.getD m 0 = x := by
  induction xs with
  | nil => cases h
  | cons y l ih =>
    by_cases c : y = x
    · exact ⟨0, by simp, fun k hk => by omega, by simpa using c⟩
    · have h' : x ∈ l := by
        rcases List.mem_cons.1 h with e | e
        · exact absurd e.symm c
        · exact e
      obtain ⟨m, h1, h2, h3⟩ := ih h'
      refine ⟨m + 1, by simp; omega, fun k hk => ?_, by simpa using h3⟩
      cases k with
      | zero => simpa using c
      | succ k => simpa using h2 k (by omega)
set_option maxHeartbeats 2000000 in
set_option maxRecDepth 100000 in
theorem contains_x {xs : List Int} {x : Int} (hx : xs.length ≤ 1000000) : SC Tryd.prog 18 [pli xs, pint x] (.sc (.bool (decide (x ∈ xs)))) := by
  refine SC.go {} tok mixed Tryd.func18 rfl rfl Tryd.ntmps18 rfl rfl (by kernel_rfl) ?_
  first | simp only [updS] | simp only [updL, Nat.reduceAdd]
  by_cases c : x ∈ xs
  · obtain ⟨m, h1, h2, h3⟩ := first_at c
    rw [decide_eq_true (show x ∈ xs from c)]
    repeat (first | refine S0 ?_ | refine S1 ?_ | refine S2 ?_ | refine S7 ?_ | refine S8 ?_ | refine S19 ?_ | refine S20 ?_ | refine S32 ?_)
    refine Scall (args := [pli xs, pint x]) (index_some hx h1 h2 h3) ?_
    repeat (first | refine S0 ?_ | refine S1 ?_ | refine S2 ?_ | refine S7 ?_ | refine S8 ?_ | refine S19 ?_ | refine S20 ?_ | refine S32 ?_)
    exact ⟨.inr rfl, .cl rfl⟩
  · rw [decide_eq_false (show ¬ x ∈ xs from c)]
    repeat (first | refine S0 ?_ | refine S1 ?_ | refine S2 ?_ | refine S7 ?_ | refine S8 ?_ | refine S19 ?_ | refine S20 ?_ | refine S32 ?_)
    refine Scall (args := [pli xs, pint x]) (index_none hx (fun k hk e => c (by rw [← e]; rw [show xs.getD k 0 = xs[k] by simp [List.getD, List.getElem?_eq_getElem hk]]; exact List.getElem_mem hk))) ?_
    repeat (first | refine S0 ?_ | refine S1 ?_ | refine S2 ?_ | refine S7 ?_ | refine S8 ?_ | refine S19 ?_ | refine S20 ?_ | refine S32 ?_)
    exact ⟨.inr rfl, .cl rfl⟩
end Go.Proofs.YtkmkcbkfakoomaaDoor
