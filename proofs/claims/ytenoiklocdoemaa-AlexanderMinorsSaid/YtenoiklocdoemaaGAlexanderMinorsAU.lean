/- Contracts of functions of package slices at lists of ints. No condition of its own. -/
import Derived.Test.YtenoiklocdoemaaGAlexanderMinorsAR
import Derived.Test.YtenoiklocdoemaaGAlexanderMinorsAS
import Derived.Test.YtenoiklocdoemaaGAlexanderMinorsAT
set_option linter.unusedVariables false
set_option linter.unusedSimpArgs false
namespace Go.Proofs.Ytenoiklocdoemaa
open Go.RowKit

theorem take_eq_succ {xs ys : List Int} {k : Nat} (h1 : k < xs.length) (h2 : k < ys.length) (h : xs.take k = ys.take k) (he : xs.getD k 0 = ys.getD k 0) : xs.take (k + 1) = ys.take (k + 1) := by
  rw [List.take_succ_eq_append_getElem h1, List.take_succ_eq_append_getElem h2, h, ← getD_lt 0 h1, ← getD_lt 0 h2, he]
set_option maxHeartbeats 1000000 in
set_option maxRecDepth 100000 in
theorem equal_s (xs ys : List Int) : SC Try.prog 32 [pli xs, pli ys] (.sc (.bool (decide (xs = ys)))) := by
  refine SC.len (callable Try.func32 rfl rfl) (fun hlen => ?_)
  have hx : xs.length ≤ 9223372036854775807 := hlen (pli xs) (by simp)
  clear hlen
  refine SC.go {} tok mixed Try.func32 rfl rfl Try.ntmps32 rfl rfl (by kernel_rfl) ?_
  first | simp only [updS] | simp only [updL, Nat.reduceAdd]
  by_cases hl : xs.length = ys.length
  · repeat (first | refine S0 ?_ | refine S1 ?_ | refine S2 ?_ | refine S3 ?_ | refine S4 ?_ | refine S5 ?_ | refine S6 ?_ | refine S7 ?_ | refine S8 ?_ | refine S9 ?_ | refine S10 ?_ | refine S11 ?_ | refine S12 ?_ | refine S13 ?_ | refine S15 ?_ | refine S16 ?_ | refine S17 ?_ ?_ | refine S19 ?_ | refine S20 ?_ | refine S21 ?_ | refine S22 ?_ | refine S23 ?_ | refine S25 ?_ | refine S26 ?_ | refine S29 ?_ | refine S49 ?_ | refine S57 ?_ | refine S58 ?_ | refine S64 ?_)
    refine CW.loopS (fun k : Nat => k ≤ xs.length ∧ xs.take k = ys.take k) (fun k => [(0, pli xs), (1, pli ys), (12, pint xs.length), (13, pint k)]) (fun _ _ => True) (fun k => xs.length - k) 0 ⟨⟨by omega, rfl⟩, SLx, trivial⟩ ?_
    intro k t h ⟨hk, hg⟩ _
    first | simp only [updS] | simp only [updL, Nat.reduceAdd]
    by_cases hk2 : k < xs.length
    · by_cases he : xs.getD k 0 = ys.getD k 0
      · repeat (first | refine S0 ?_ | refine S1 ?_ | refine S2 ?_ | refine S3 ?_ | refine S4 ?_ | refine S5 ?_ | refine S6 ?_ | refine S7 ?_ | refine S8 ?_ | refine S9 ?_ | refine S10 ?_ | refine S11 ?_ | refine S12 ?_ | refine S13 ?_ | refine S15 ?_ | refine S16 ?_ | refine S17 ?_ ?_ | refine S19 ?_ | refine S20 ?_ | refine S21 ?_ | refine S22 ?_ | refine S23 ?_ | refine S25 ?_ | refine S26 ?_ | refine S29 ?_ | refine S49 ?_ | refine S57 ?_ | refine S58 ?_ | refine S64 ?_)
        exact ⟨k + 1, ⟨by omega, take_eq_succ hk2 (by omega) hg he⟩, SLx, trivial, by omega⟩
      · repeat (first | refine S0 ?_ | refine S1 ?_ | refine S2 ?_ | refine S3 ?_ | refine S4 ?_ | refine S5 ?_ | refine S6 ?_ | refine S7 ?_ | refine S8 ?_ | refine S9 ?_ | refine S10 ?_ | refine S11 ?_ | refine S12 ?_ | refine S13 ?_ | refine S15 ?_ | refine S16 ?_ | refine S17 ?_ ?_ | refine S19 ?_ | refine S20 ?_ | refine S21 ?_ | refine S22 ?_ | refine S23 ?_ | refine S25 ?_ | refine S26 ?_ | refine S29 ?_ | refine S49 ?_ | refine S57 ?_ | refine S58 ?_ | refine S64 ?_)
        refine ⟨.inr rfl, ?_⟩
        rw [show decide (xs = ys) = false from decide_eq_false (fun e => he (by rw [e]))]
        exact .cl rfl
    · repeat (first | refine S0 ?_ | refine S1 ?_ | refine S2 ?_ | refine S3 ?_ | refine S4 ?_ | refine S5 ?_ | refine S6 ?_ | refine S7 ?_ | refine S8 ?_ | refine S9 ?_ | refine S10 ?_ | refine S11 ?_ | refine S12 ?_ | refine S13 ?_ | refine S15 ?_ | refine S16 ?_ | refine S17 ?_ ?_ | refine S19 ?_ | refine S20 ?_ | refine S21 ?_ | refine S22 ?_ | refine S23 ?_ | refine S25 ?_ | refine S26 ?_ | refine S29 ?_ | refine S49 ?_ | refine S57 ?_ | refine S58 ?_ | refine S64 ?_)
      refine ⟨.inr rfl, ?_⟩
      have e : xs = ys := by rw [List.take_of_length_le (by omega), List.take_of_length_le (by omega)] at hg; exact hg
      rw [show decide (xs = ys) = true from decide_eq_true e]
      exact .cl rfl
  · repeat (first | refine S0 ?_ | refine S1 ?_ | refine S2 ?_ | refine S3 ?_ | refine S4 ?_ | refine S5 ?_ | refine S6 ?_ | refine S7 ?_ | refine S8 ?_ | refine S9 ?_ | refine S10 ?_ | refine S11 ?_ | refine S12 ?_ | refine S13 ?_ | refine S15 ?_ | refine S16 ?_ | refine S17 ?_ ?_ | refine S19 ?_ | refine S20 ?_ | refine S21 ?_ | refine S22 ?_ | refine S23 ?_ | refine S25 ?_ | refine S26 ?_ | refine S29 ?_ | refine S49 ?_ | refine S57 ?_ | refine S58 ?_ | refine S64 ?_)
    refine ⟨.inr rfl, ?_⟩
    rw [show decide (xs = ys) = false from decide_eq_false (fun e => hl (by rw [e]))]
    exact .cl rfl
set_option maxHeartbeats 1000000 in
set_option maxRecDepth 100000 in
theorem clip_s (xs : List Int) : SC Try.prog 29 [pli xs] (.lst true 1 xs.length (ints xs)) := by
  refine SC.go {} tok mixed Try.func29 rfl rfl Try.ntmps29 rfl rfl (by kernel_rfl) ?_
  first | simp only [updS] | simp only [updL, Nat.reduceAdd]
  repeat (first | refine S0 ?_ | refine S1 ?_ | refine S2 ?_ | refine S3 ?_ | refine S4 ?_ | refine S5 ?_ | refine S6 ?_ | refine S7 ?_ | refine S8 ?_ | refine S9 ?_ | refine S10 ?_ | refine S11 ?_ | refine S12 ?_ | refine S13 ?_ | refine S15 ?_ | refine S16 ?_ | refine S17 ?_ ?_ | refine S19 ?_ | refine S20 ?_ | refine S21 ?_ | refine S22 ?_ | refine S23 ?_ | refine S25 ?_ | refine S26 ?_ | refine S29 ?_ | refine S49 ?_ | refine S57 ?_ | refine S58 ?_ | refine S64 ?_)
  exact ⟨.inr rfl, .cl (by exact (show (PV.lst true 1 xs.length (ints xs)).cl = true by simp [PV.cl, ints_cl]))⟩
set_option maxHeartbeats 1000000 in
set_option maxRecDepth 100000 in
theorem clone_s (xs : List Int) (hl : xs.length ≤ 1000000) : SC Try.prog 30 [pli xs] (pli xs) := by
  refine SC.go {} tok mixed Try.func30 rfl rfl Try.ntmps30 rfl rfl (by kernel_rfl) ?_
  first | simp only [updS] | simp only [updL, Nat.reduceAdd]
  by_cases h0 : xs.length = 0
  · obtain rfl : xs = [] := List.length_eq_zero_iff.1 h0
    repeat (first | refine S0 ?_ | refine S1 ?_ | refine S2 ?_ | refine S3 ?_ | refine S4 ?_ | refine S5 ?_ | refine S6 ?_ | refine S7 ?_ | refine S8 ?_ | refine S9 ?_ | refine S10 ?_ | refine S11 ?_ | refine S12 ?_ | refine S13 ?_ | refine S15 ?_ | refine S16 ?_ | refine S17 ?_ ?_ | refine S19 ?_ | refine S20 ?_ | refine S21 ?_ | refine S22 ?_ | refine S23 ?_ | refine S25 ?_ | refine S26 ?_ | refine S29 ?_ | refine S49 ?_ | refine S57 ?_ | refine S58 ?_ | refine S64 ?_)
    · exact ⟨.inr rfl, .nrm rfl⟩
    · repeat (first | refine S0 ?_ | refine S1 ?_ | refine S2 ?_ | refine S3 ?_ | refine S4 ?_ | refine S5 ?_ | refine S6 ?_ | refine S7 ?_ | refine S8 ?_ | refine S9 ?_ | refine S10 ?_ | refine S11 ?_ | refine S12 ?_ | refine S13 ?_ | refine S15 ?_ | refine S16 ?_ | refine S17 ?_ ?_ | refine S19 ?_ | refine S20 ?_ | refine S21 ?_ | refine S22 ?_ | refine S23 ?_ | refine S25 ?_ | refine S26 ?_ | refine S29 ?_ | refine S49 ?_ | refine S57 ?_ | refine S58 ?_ | refine S64 ?_)
      refine AW.ap0 (by first | exact Or.inl rfl | exact Or.inr ⟨rfl, HP.tok_even _⟩ | exact Or.inr (Or.inl ⟨rfl, HP.tok_even _⟩) | exact Or.inr (Or.inr ⟨rfl, HP.tok_odd _⟩) | exact Or.inr (Or.inl rfl) | exact Or.inr (Or.inr (Or.inl rfl)) | exact Or.inr (Or.inr (Or.inr (Or.inl ⟨rfl, HP.tok_odd _⟩))) | exact Or.inr (Or.inr (Or.inr (Or.inr ⟨rfl, HP.tok_even _⟩))) | exact Or.inr (Or.inr (Or.inr (Or.inr ⟨rfl, by assumption⟩))) | exact Or.inr ⟨rfl, by assumption⟩ | exact Or.inr (Or.inl ⟨rfl, by assumption⟩) | exact Or.inr (Or.inr ⟨rfl, by assumption⟩) | exact Or.inr (Or.inr (Or.inr (Or.inl ⟨rfl, by assumption⟩))) | exact Or.inr (Or.inr (Or.inl ⟨rfl, HP.tok_odd _⟩)) | exact Or.inr (Or.inr (Or.inl ⟨rfl, by assumption⟩)) | exact Or.inr (Or.inr (Or.inr rfl)) | exact Or.inr (Or.inr rfl) | exact Or.inr rfl) (by simp only [evA, upd, putA, ofConst, ofConst.ofCell, Nat.reduceEqDiff, ↓reduceIte, List.map_cons, List.map_nil, List.toList_toArray]; first | done | rfl) rfl (by first | exact ⟨rfl, rfl, .inr rfl⟩ | exact ⟨rfl, rfl, .inl rfl⟩ | (simp only [evA, upd, putA, Nat.reduceEqDiff, ↓reduceIte]; first | exact ⟨rfl, rfl, .inr rfl⟩ | exact ⟨rfl, rfl, .inl rfl⟩)) ?_
      repeat (first | refine S0 ?_ | refine S1 ?_ | refine S2 ?_ | refine S3 ?_ | refine S4 ?_ | refine S5 ?_ | refine S6 ?_ | refine S7 ?_ | refine S8 ?_ | refine S9 ?_ | refine S10 ?_ | refine S11 ?_ | refine S12 ?_ | refine S13 ?_ | refine S15 ?_ | refine S16 ?_ | refine S17 ?_ ?_ | refine S19 ?_ | refine S20 ?_ | refine S21 ?_ | refine S22 ?_ | refine S23 ?_ | refine S25 ?_ | refine S26 ?_ | refine S29 ?_ | refine S49 ?_ | refine S57 ?_ | refine S58 ?_ | refine S64 ?_)
      exact ⟨.inr rfl, .nrm rfl⟩
  · repeat (first | refine S0 ?_ | refine S1 ?_ | refine S2 ?_ | refine S3 ?_ | refine S4 ?_ | refine S5 ?_ | refine S6 ?_ | refine S7 ?_ | refine S8 ?_ | refine S9 ?_ | refine S10 ?_ | refine S11 ?_ | refine S12 ?_ | refine S13 ?_ | refine S15 ?_ | refine S16 ?_ | refine S17 ?_ ?_ | refine S19 ?_ | refine S20 ?_ | refine S21 ?_ | refine S22 ?_ | refine S23 ?_ | refine S25 ?_ | refine S26 ?_ | refine S29 ?_ | refine S49 ?_ | refine S57 ?_ | refine S58 ?_ | refine S64 ?_)
    exact ⟨.inr rfl, Fz.refI HBx (by first | (simp; done) | (simp; omega)) (by first | rfl | (simp; done))⟩
end Go.Proofs.Ytenoiklocdoemaa
