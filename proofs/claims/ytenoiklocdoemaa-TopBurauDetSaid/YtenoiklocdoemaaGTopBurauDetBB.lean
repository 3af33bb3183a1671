/- polymatrix.Check and timbref1.SquareFault. No condition of its own. -/
import Derived.Test.YtenoiklocdoemaaGTopBurauDetAX
import Derived.Test.YtenoiklocdoemaaGTopBurauDetBA
import Derived.Test.YtenoiklocdoemaaGTopBurauDetAT
set_option linter.unusedVariables false
set_option linter.unusedSimpArgs false
namespace Go.Proofs.Ytenoiklocdoemaa
open Go.RowKit

def okK (x : Int) : Prop := -1000 ≤ x ∧ x ≤ 1000
instance (x : Int) : Decidable (okK x) := by unfold okK; exact inferInstance
/-- the first fault in a list -/
noncomputable def fstE {α : Type} (F : α → Int) : List α → Int
  | [] => 0
  | x :: l => if F x = 0 then fstE F l else F x
theorem fstE_ok {α : Type} {F : α → Int} : ∀ {l : List α}, fstE F l = 0 → ∀ x ∈ l, F x = 0
  | [], _, x, h => by cases h
  | y :: l, h, x, hx => by
    unfold fstE at h
    split at h
    · rename_i h0
      rcases List.mem_cons.1 hx with rfl | hx
      · exact h0
      · exact fstE_ok h x hx
    · contradiction
theorem fstE_drop {α : Type} {F : α → Int} (d : α) {l : List α} {k : Nat} (h : k < l.length) : fstE F (l.drop k) = if F (l.getD k d) = 0 then fstE F (l.drop (k + 1)) else F (l.getD k d) := by
  rw [List.drop_eq_getElem_cons h, getD_lt d h]; rfl
noncomputable def elF (p : Po) : Int := if pF p ≠ 0 then pF p else if 20 < p.2.length ∨ 20 < p.1 ∨ p.1 < -20 then 2 else if ∀ x ∈ p.2, okK x then 0 else 1
noncomputable def rowE (k : Nat) (r : List Po) : Int := if r.length ≠ k then 3 else fstE elF r
/-- WHAT IS WRONG with a matrix of polynomials -/
noncomputable def sqF (m : List (List Po)) : Int := if 4 < m.length then 2 else fstE (rowE m.length) m
set_option maxHeartbeats 2000000 in
set_option maxRecDepth 100000 in
theorem elem1_s (x : Int) : SC Try.prog 72 [pint x] (.sc (.bool (decide (¬ okK x)))) := by
  refine SC.go {} tok mixed Try.func72 rfl rfl Try.ntmps72 rfl rfl (by kernel_rfl) ?_
  first | simp only [updS] | simp only [updL, Nat.reduceAdd]
  by_cases h1 : x < -1000
  · rw [decide_eq_true (by unfold okK; omega)]
    repeat (first | refine S0 ?_ | refine S1 ?_ | refine S2 ?_ | refine S4 ?_ | refine S5 ?_ | refine S6 ?_ | refine S7 ?_ | refine S8 ?_ | refine S9 ?_ | refine S10 ?_ | refine S11 ?_ | refine S12 ?_ | refine S13 ?_ | refine S15 ?_ | refine S16 ?_ | refine S19 ?_ | refine S20 ?_ | refine S21 ?_ | refine S22 ?_ | refine S23 ?_ | refine S25 ?_ | refine S26 ?_ | refine S29 ?_ | refine S30 ?_ | refine S37 ?_ | refine S38 ?_ | refine S40 ?_ | refine S41 ?_ | refine S43 ?_ | refine S44 ?_ | refine S47 ?_ | refine S48 ?_ | refine S66 ?_ | refine S68 ?_)
    exact ⟨.inr rfl, .cl rfl⟩
  · by_cases h2 : 1000 < x
    · rw [decide_eq_true (by unfold okK; omega)]
      repeat (first | refine S0 ?_ | refine S1 ?_ | refine S2 ?_ | refine S4 ?_ | refine S5 ?_ | refine S6 ?_ | refine S7 ?_ | refine S8 ?_ | refine S9 ?_ | refine S10 ?_ | refine S11 ?_ | refine S12 ?_ | refine S13 ?_ | refine S15 ?_ | refine S16 ?_ | refine S19 ?_ | refine S20 ?_ | refine S21 ?_ | refine S22 ?_ | refine S23 ?_ | refine S25 ?_ | refine S26 ?_ | refine S29 ?_ | refine S30 ?_ | refine S37 ?_ | refine S38 ?_ | refine S40 ?_ | refine S41 ?_ | refine S43 ?_ | refine S44 ?_ | refine S47 ?_ | refine S48 ?_ | refine S66 ?_ | refine S68 ?_)
      rw [decide_eq_true h2]
      exact ⟨.inr rfl, .cl rfl⟩
    · rw [decide_eq_false (by unfold okK; omega)]
      repeat (first | refine S0 ?_ | refine S1 ?_ | refine S2 ?_ | refine S4 ?_ | refine S5 ?_ | refine S6 ?_ | refine S7 ?_ | refine S8 ?_ | refine S9 ?_ | refine S10 ?_ | refine S11 ?_ | refine S12 ?_ | refine S13 ?_ | refine S15 ?_ | refine S16 ?_ | refine S19 ?_ | refine S20 ?_ | refine S21 ?_ | refine S22 ?_ | refine S23 ?_ | refine S25 ?_ | refine S26 ?_ | refine S29 ?_ | refine S30 ?_ | refine S37 ?_ | refine S38 ?_ | refine S40 ?_ | refine S41 ?_ | refine S43 ?_ | refine S44 ?_ | refine S47 ?_ | refine S48 ?_ | refine S66 ?_ | refine S68 ?_)
      rw [decide_eq_false h2]
      exact ⟨.inr rfl, .cl rfl⟩
set_option maxHeartbeats 4000000 in
set_option maxRecDepth 100000 in
theorem element_s (p : Po) : SC Try.prog 61 [ppo p] (pint (elF p)) := by
  obtain ⟨l, c⟩ := p
  refine SC.go {} tok mixed Try.func61 rfl rfl Try.ntmps61 rfl rfl (by kernel_rfl) ?_
  first | simp only [updS] | simp only [updL, Nat.reduceAdd]
  repeat (first | refine S0 ?_ | refine S1 ?_ | refine S2 ?_ | refine S4 ?_ | refine S5 ?_ | refine S6 ?_ | refine S7 ?_ | refine S8 ?_ | refine S9 ?_ | refine S10 ?_ | refine S11 ?_ | refine S12 ?_ | refine S13 ?_ | refine S15 ?_ | refine S16 ?_ | refine S19 ?_ | refine S20 ?_ | refine S21 ?_ | refine S22 ?_ | refine S23 ?_ | refine S25 ?_ | refine S26 ?_ | refine S29 ?_ | refine S30 ?_ | refine S37 ?_ | refine S38 ?_ | refine S40 ?_ | refine S41 ?_ | refine S43 ?_ | refine S44 ?_ | refine S47 ?_ | refine S48 ?_ | refine S66 ?_ | refine S68 ?_)
  refine Scall (args := [ppo (l, c)]) (pcheck_s (l, c)) ?_
  by_cases h0 : pF (l, c) = 0
  · rw [h0]
    by_cases h1 : 20 < c.length
    · rw [show elF (l, c) = 2 by unfold elF; rw [if_neg (fun hh => hh h0), if_pos (.inl h1)]]
      repeat (first | refine S0 ?_ | refine S1 ?_ | refine S2 ?_ | refine S4 ?_ | refine S5 ?_ | refine S6 ?_ | refine S7 ?_ | refine S8 ?_ | refine S9 ?_ | refine S10 ?_ | refine S11 ?_ | refine S12 ?_ | refine S13 ?_ | refine S15 ?_ | refine S16 ?_ | refine S19 ?_ | refine S20 ?_ | refine S21 ?_ | refine S22 ?_ | refine S23 ?_ | refine S25 ?_ | refine S26 ?_ | refine S29 ?_ | refine S30 ?_ | refine S37 ?_ | refine S38 ?_ | refine S40 ?_ | refine S41 ?_ | refine S43 ?_ | refine S44 ?_ | refine S47 ?_ | refine S48 ?_ | refine S66 ?_ | refine S68 ?_)
      exact ⟨.inr rfl, .cl rfl⟩
    by_cases h2 : l < -20
    · rw [show elF (l, c) = 2 by unfold elF; rw [if_neg (fun hh => hh h0), if_pos (.inr (.inr h2))]]
      repeat (first | refine S0 ?_ | refine S1 ?_ | refine S2 ?_ | refine S4 ?_ | refine S5 ?_ | refine S6 ?_ | refine S7 ?_ | refine S8 ?_ | refine S9 ?_ | refine S10 ?_ | refine S11 ?_ | refine S12 ?_ | refine S13 ?_ | refine S15 ?_ | refine S16 ?_ | refine S19 ?_ | refine S20 ?_ | refine S21 ?_ | refine S22 ?_ | refine S23 ?_ | refine S25 ?_ | refine S26 ?_ | refine S29 ?_ | refine S30 ?_ | refine S37 ?_ | refine S38 ?_ | refine S40 ?_ | refine S41 ?_ | refine S43 ?_ | refine S44 ?_ | refine S47 ?_ | refine S48 ?_ | refine S66 ?_ | refine S68 ?_)
      exact ⟨.inr rfl, .cl rfl⟩
    by_cases h3 : 20 < l
    · rw [show elF (l, c) = 2 by unfold elF; rw [if_neg (fun hh => hh h0), if_pos (.inr (.inl h3))]]
      repeat (first | refine S0 ?_ | refine S1 ?_ | refine S2 ?_ | refine S4 ?_ | refine S5 ?_ | refine S6 ?_ | refine S7 ?_ | refine S8 ?_ | refine S9 ?_ | refine S10 ?_ | refine S11 ?_ | refine S12 ?_ | refine S13 ?_ | refine S15 ?_ | refine S16 ?_ | refine S19 ?_ | refine S20 ?_ | refine S21 ?_ | refine S22 ?_ | refine S23 ?_ | refine S25 ?_ | refine S26 ?_ | refine S29 ?_ | refine S30 ?_ | refine S37 ?_ | refine S38 ?_ | refine S40 ?_ | refine S41 ?_ | refine S43 ?_ | refine S44 ?_ | refine S47 ?_ | refine S48 ?_ | refine S66 ?_ | refine S68 ?_)
      exact ⟨.inr rfl, .cl rfl⟩
    have e : elF (l, c) = if ∀ x ∈ c, okK x then 0 else 1 := by
      unfold elF; rw [if_neg (fun hh => hh h0), if_neg (by simp only; omega)]
    have hpc := contains_gen elem1_s c (by omega)
    rw [e]
    repeat (first | refine S0 ?_ | refine S1 ?_ | refine S2 ?_ | refine S4 ?_ | refine S5 ?_ | refine S6 ?_ | refine S7 ?_ | refine S8 ?_ | refine S9 ?_ | refine S10 ?_ | refine S11 ?_ | refine S12 ?_ | refine S13 ?_ | refine S15 ?_ | refine S16 ?_ | refine S19 ?_ | refine S20 ?_ | refine S21 ?_ | refine S22 ?_ | refine S23 ?_ | refine S25 ?_ | refine S26 ?_ | refine S29 ?_ | refine S30 ?_ | refine S37 ?_ | refine S38 ?_ | refine S40 ?_ | refine S41 ?_ | refine S43 ?_ | refine S44 ?_ | refine S47 ?_ | refine S48 ?_ | refine S66 ?_ | refine S68 ?_)
    by_cases h7 : ∀ x ∈ c, okK x
    · rw [decide_eq_false (fun hh => hh h7)] at hpc
      refine Scall (args := [pli c, .clo 72 []]) hpc ?_
      rw [if_pos h7]
      repeat (first | refine S0 ?_ | refine S1 ?_ | refine S2 ?_ | refine S4 ?_ | refine S5 ?_ | refine S6 ?_ | refine S7 ?_ | refine S8 ?_ | refine S9 ?_ | refine S10 ?_ | refine S11 ?_ | refine S12 ?_ | refine S13 ?_ | refine S15 ?_ | refine S16 ?_ | refine S19 ?_ | refine S20 ?_ | refine S21 ?_ | refine S22 ?_ | refine S23 ?_ | refine S25 ?_ | refine S26 ?_ | refine S29 ?_ | refine S30 ?_ | refine S37 ?_ | refine S38 ?_ | refine S40 ?_ | refine S41 ?_ | refine S43 ?_ | refine S44 ?_ | refine S47 ?_ | refine S48 ?_ | refine S66 ?_ | refine S68 ?_)
      exact ⟨.inr rfl, .cl rfl⟩
    · rw [decide_eq_true h7] at hpc
      refine Scall (args := [pli c, .clo 72 []]) hpc ?_
      rw [if_neg h7]
      repeat (first | refine S0 ?_ | refine S1 ?_ | refine S2 ?_ | refine S4 ?_ | refine S5 ?_ | refine S6 ?_ | refine S7 ?_ | refine S8 ?_ | refine S9 ?_ | refine S10 ?_ | refine S11 ?_ | refine S12 ?_ | refine S13 ?_ | refine S15 ?_ | refine S16 ?_ | refine S19 ?_ | refine S20 ?_ | refine S21 ?_ | refine S22 ?_ | refine S23 ?_ | refine S25 ?_ | refine S26 ?_ | refine S29 ?_ | refine S30 ?_ | refine S37 ?_ | refine S38 ?_ | refine S40 ?_ | refine S41 ?_ | refine S43 ?_ | refine S44 ?_ | refine S47 ?_ | refine S48 ?_ | refine S66 ?_ | refine S68 ?_)
      exact ⟨.inr rfl, .cl rfl⟩
  · rw [show elF (l, c) = pF (l, c) from if_pos h0]
    repeat (first | refine S0 ?_ | refine S1 ?_ | refine S2 ?_ | refine S4 ?_ | refine S5 ?_ | refine S6 ?_ | refine S7 ?_ | refine S8 ?_ | refine S9 ?_ | refine S10 ?_ | refine S11 ?_ | refine S12 ?_ | refine S13 ?_ | refine S15 ?_ | refine S16 ?_ | refine S19 ?_ | refine S20 ?_ | refine S21 ?_ | refine S22 ?_ | refine S23 ?_ | refine S25 ?_ | refine S26 ?_ | refine S29 ?_ | refine S30 ?_ | refine S37 ?_ | refine S38 ?_ | refine S40 ?_ | refine S41 ?_ | refine S43 ?_ | refine S44 ?_ | refine S47 ?_ | refine S48 ?_ | refine S66 ?_ | refine S68 ?_)
    exact ⟨.inr rfl, .cl rfl⟩
set_option maxHeartbeats 8000000 in
set_option maxRecDepth 100000 in
theorem sqcheck_s (m : List (List Po)) : SC Try.prog 38 [ppss m] (pint (sqF m)) := by
  refine SC.len ⟨_, Try.func38, rfl, rfl⟩ (fun _ => ?_)
  refine SC.go {} tok mixed Try.func38 rfl rfl Try.ntmps38 rfl rfl (by kernel_rfl) ?_
  first | simp only [updS] | simp only [updL, Nat.reduceAdd]
  by_cases h6 : 4 < m.length
  · rw [show sqF m = 2 from if_pos h6]
    repeat (first | refine S0 ?_ | refine S1 ?_ | refine S2 ?_ | refine S4 ?_ | refine S5 ?_ | refine S6 ?_ | refine S7 ?_ | refine S8 ?_ | refine S9 ?_ | refine S10 ?_ | refine S11 ?_ | refine S12 ?_ | refine S13 ?_ | refine S15 ?_ | refine S16 ?_ | refine S19 ?_ | refine S20 ?_ | refine S21 ?_ | refine S22 ?_ | refine S23 ?_ | refine S25 ?_ | refine S26 ?_ | refine S29 ?_ | refine S30 ?_ | refine S37 ?_ | refine S38 ?_ | refine S40 ?_ | refine S41 ?_ | refine S43 ?_ | refine S44 ?_ | refine S47 ?_ | refine S48 ?_ | refine S66 ?_ | refine S68 ?_)
    exact ⟨.inr rfl, .cl rfl⟩
  rw [show sqF m = fstE (rowE m.length) m from if_neg h6]
  repeat (first | refine S0 ?_ | refine S1 ?_ | refine S2 ?_ | refine S4 ?_ | refine S5 ?_ | refine S6 ?_ | refine S7 ?_ | refine S8 ?_ | refine S9 ?_ | refine S10 ?_ | refine S11 ?_ | refine S12 ?_ | refine S13 ?_ | refine S15 ?_ | refine S16 ?_ | refine S19 ?_ | refine S20 ?_ | refine S21 ?_ | refine S22 ?_ | refine S23 ?_ | refine S25 ?_ | refine S26 ?_ | refine S29 ?_ | refine S30 ?_ | refine S37 ?_ | refine S38 ?_ | refine S40 ?_ | refine S41 ?_ | refine S43 ?_ | refine S44 ?_ | refine S47 ?_ | refine S48 ?_ | refine S66 ?_ | refine S68 ?_)
  refine CW.loopS (fun i : Nat => i ≤ m.length ∧ fstE (rowE m.length) m = fstE (rowE m.length) (m.drop i)) (fun i => [(0, ppss m), (11, ppss m), (12, pint m.length), (13, pint i)]) (fun _ _ => True) (fun i => m.length - i) 0 ⟨⟨Nat.zero_le _, rfl⟩, SLx, trivial⟩ ?_
  rintro i t hp ⟨hi, hg⟩ _
  first | simp only [updS] | simp only [updL, Nat.reduceAdd]
  by_cases hlt : i < m.length
  · rw [fstE_drop [] hlt] at hg
    by_cases c2 : (m.getD i []).length ≠ m.length
    · have e : rowE m.length (m.getD i []) = 3 := if_pos c2
      rw [e, if_neg (by decide)] at hg
      rw [hg]
      repeat (first | refine S0 ?_ | refine S1 ?_ | refine S2 ?_ | refine S4 ?_ | refine S5 ?_ | refine S6 ?_ | refine S7 ?_ | refine S8 ?_ | refine S9 ?_ | refine S10 ?_ | refine S11 ?_ | refine S12 ?_ | refine S13 ?_ | refine S15 ?_ | refine S16 ?_ | refine S19 ?_ | refine S20 ?_ | refine S21 ?_ | refine S22 ?_ | refine S23 ?_ | refine S25 ?_ | refine S26 ?_ | refine S29 ?_ | refine S30 ?_ | refine S37 ?_ | refine S38 ?_ | refine S40 ?_ | refine S41 ?_ | refine S43 ?_ | refine S44 ?_ | refine S47 ?_ | refine S48 ?_ | refine S66 ?_ | refine S68 ?_)
      exact ⟨.inr rfl, .cl rfl⟩
    have c3 : (m.getD i []).length = m.length := by omega
    repeat (first | refine S0 ?_ | refine S1 ?_ | refine S2 ?_ | refine S4 ?_ | refine S5 ?_ | refine S6 ?_ | refine S7 ?_ | refine S8 ?_ | refine S9 ?_ | refine S10 ?_ | refine S11 ?_ | refine S12 ?_ | refine S13 ?_ | refine S15 ?_ | refine S16 ?_ | refine S19 ?_ | refine S20 ?_ | refine S21 ?_ | refine S22 ?_ | refine S23 ?_ | refine S25 ?_ | refine S26 ?_ | refine S29 ?_ | refine S30 ?_ | refine S37 ?_ | refine S38 ?_ | refine S40 ?_ | refine S41 ?_ | refine S43 ?_ | refine S44 ?_ | refine S47 ?_ | refine S48 ?_ | refine S66 ?_ | refine S68 ?_)
    refine CW.loopS (fun j : Nat => j ≤ (m.getD i []).length ∧ fstE elF (m.getD i []) = fstE elF ((m.getD i []).drop j)) (fun j => [(0, ppss m), (11, ppss m), (12, pint m.length), (13, pint i), (22, pps (m.getD i [])), (23, pint (m.getD i []).length), (24, pint j)]) (fun _ _ => True) (fun j => (m.getD i []).length - j) 0 ⟨⟨Nat.zero_le _, rfl⟩, SLx, trivial⟩ ?_
    clear t hp
    rintro j t hp ⟨hj, hgj⟩ _
    first | simp only [updS] | simp only [updL, Nat.reduceAdd]
    by_cases hjl : j < (m.getD i []).length
    · rw [fstE_drop (0, []) hjl] at hgj
      have hpl := pos_length (m.getD i [])
      obtain ⟨p, hpp⟩ : ∃ p, p = (m.getD i []).getD j (0, []) := ⟨_, rfl⟩
      have hat := pos_at hjl
      rw [← hpp] at hgj hat
      obtain ⟨pl, pc⟩ := p
      repeat (first | refine S0 ?_ | refine S1 ?_ | refine S2 ?_ | refine S4 ?_ | refine S5 ?_ | refine S6 ?_ | refine S7 ?_ | refine S8 ?_ | refine S9 ?_ | refine S10 ?_ | refine S11 ?_ | refine S12 ?_ | refine S13 ?_ | refine S15 ?_ | refine S16 ?_ | refine S19 ?_ | refine S20 ?_ | refine S21 ?_ | refine S22 ?_ | refine S23 ?_ | refine S25 ?_ | refine S26 ?_ | refine S29 ?_ | refine S30 ?_ | refine S37 ?_ | refine S38 ?_ | refine S40 ?_ | refine S41 ?_ | refine S43 ?_ | refine S44 ?_ | refine S47 ?_ | refine S48 ?_ | refine S66 ?_ | refine S68 ?_)
      refine AW.ldla (r := [pint pl, pli pc]) EVx rfl (by rw [List.length_drop, hpl, Int.toNat_natCast]; omega) (by rw [Int.toNat_natCast]; exact hat) ?_
      repeat (first | refine S0 ?_ | refine S1 ?_ | refine S2 ?_ | refine S4 ?_ | refine S5 ?_ | refine S6 ?_ | refine S7 ?_ | refine S8 ?_ | refine S9 ?_ | refine S10 ?_ | refine S11 ?_ | refine S12 ?_ | refine S13 ?_ | refine S15 ?_ | refine S16 ?_ | refine S19 ?_ | refine S20 ?_ | refine S21 ?_ | refine S22 ?_ | refine S23 ?_ | refine S25 ?_ | refine S26 ?_ | refine S29 ?_ | refine S30 ?_ | refine S37 ?_ | refine S38 ?_ | refine S40 ?_ | refine S41 ?_ | refine S43 ?_ | refine S44 ?_ | refine S47 ?_ | refine S48 ?_ | refine S66 ?_ | refine S68 ?_)
      refine Scall (args := [ppo (pl, pc)]) (element_s (pl, pc)) ?_
      by_cases ho : elF (pl, pc) = 0
      · rw [if_pos ho] at hgj
        rw [ho]
        repeat (first | refine S0 ?_ | refine S1 ?_ | refine S2 ?_ | refine S4 ?_ | refine S5 ?_ | refine S6 ?_ | refine S7 ?_ | refine S8 ?_ | refine S9 ?_ | refine S10 ?_ | refine S11 ?_ | refine S12 ?_ | refine S13 ?_ | refine S15 ?_ | refine S16 ?_ | refine S19 ?_ | refine S20 ?_ | refine S21 ?_ | refine S22 ?_ | refine S23 ?_ | refine S25 ?_ | refine S26 ?_ | refine S29 ?_ | refine S30 ?_ | refine S37 ?_ | refine S38 ?_ | refine S40 ?_ | refine S41 ?_ | refine S43 ?_ | refine S44 ?_ | refine S47 ?_ | refine S48 ?_ | refine S66 ?_ | refine S68 ?_)
        exact ⟨j + 1, ⟨by omega, hgj⟩, SLx, trivial, by omega⟩
      · rw [if_neg ho] at hgj
        rw [show rowE m.length (m.getD i []) = elF (pl, pc) by unfold rowE; rw [if_neg (fun hh => hh c3), hgj], if_neg ho] at hg
        rw [hg]
        repeat (first | refine S0 ?_ | refine S1 ?_ | refine S2 ?_ | refine S4 ?_ | refine S5 ?_ | refine S6 ?_ | refine S7 ?_ | refine S8 ?_ | refine S9 ?_ | refine S10 ?_ | refine S11 ?_ | refine S12 ?_ | refine S13 ?_ | refine S15 ?_ | refine S16 ?_ | refine S19 ?_ | refine S20 ?_ | refine S21 ?_ | refine S22 ?_ | refine S23 ?_ | refine S25 ?_ | refine S26 ?_ | refine S29 ?_ | refine S30 ?_ | refine S37 ?_ | refine S38 ?_ | refine S40 ?_ | refine S41 ?_ | refine S43 ?_ | refine S44 ?_ | refine S47 ?_ | refine S48 ?_ | refine S66 ?_ | refine S68 ?_)
        exact ⟨.inr rfl, .cl rfl⟩
    · have e : rowE m.length (m.getD i []) = 0 := by
        unfold rowE
        rw [if_neg (fun hh => hh c3), hgj, show (m.getD i []).drop j = [] from List.drop_eq_nil_of_le (by omega)]; rfl
      rw [e, if_pos rfl] at hg
      repeat (first | refine S0 ?_ | refine S1 ?_ | refine S2 ?_ | refine S4 ?_ | refine S5 ?_ | refine S6 ?_ | refine S7 ?_ | refine S8 ?_ | refine S9 ?_ | refine S10 ?_ | refine S11 ?_ | refine S12 ?_ | refine S13 ?_ | refine S15 ?_ | refine S16 ?_ | refine S19 ?_ | refine S20 ?_ | refine S21 ?_ | refine S22 ?_ | refine S23 ?_ | refine S25 ?_ | refine S26 ?_ | refine S29 ?_ | refine S30 ?_ | refine S37 ?_ | refine S38 ?_ | refine S40 ?_ | refine S41 ?_ | refine S43 ?_ | refine S44 ?_ | refine S47 ?_ | refine S48 ?_ | refine S66 ?_ | refine S68 ?_)
      exact ⟨i + 1, ⟨by omega, hg⟩, SLx, trivial, by omega⟩
  · obtain rfl : i = m.length := by omega
    rw [List.drop_length] at hg
    rw [hg]
    repeat (first | refine S0 ?_ | refine S1 ?_ | refine S2 ?_ | refine S4 ?_ | refine S5 ?_ | refine S6 ?_ | refine S7 ?_ | refine S8 ?_ | refine S9 ?_ | refine S10 ?_ | refine S11 ?_ | refine S12 ?_ | refine S13 ?_ | refine S15 ?_ | refine S16 ?_ | refine S19 ?_ | refine S20 ?_ | refine S21 ?_ | refine S22 ?_ | refine S23 ?_ | refine S25 ?_ | refine S26 ?_ | refine S29 ?_ | refine S30 ?_ | refine S37 ?_ | refine S38 ?_ | refine S40 ?_ | refine S41 ?_ | refine S43 ?_ | refine S44 ?_ | refine S47 ?_ | refine S48 ?_ | refine S66 ?_ | refine S68 ?_)
    exact ⟨.inr rfl, .cl rfl⟩
end Go.Proofs.Ytenoiklocdoemaa
