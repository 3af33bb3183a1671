/- Facts and contracts that the claim uses. No condition of its own. -/
import Derived.Test.YtdlpbpfcgjgppaaGJonesStatesBE
import Derived.Test.YtdlpbpfcgjgppaaGJonesStatesAU
import Derived.Test.YtdlpbpfcgjgppaaGJonesStatesAY
set_option linter.unusedVariables false
set_option linter.unusedSimpArgs false
namespace Go.Proofs.Ytdlpbpfcgjgppaa
open Go.RowKit
def letP (n x : Int) : Prop := x ≠ 0 ∧ x < n ∧ -n < x
instance (n x : Int) : Decidable (letP n x) := by unfold letP; exact inferInstance
def bF (n : Int) (w : List Int) : Int := if n < 1 ∨ 6 < n then 1 else if 30 < w.length then 2 else if ∀ x ∈ w, letP n x then 0 else 3
set_option maxHeartbeats 2000000 in
set_option maxRecDepth 100000 in
theorem letter_s (n x : Int) (hn : 1 ≤ n ∧ n ≤ 6) : SC Try.prog 47 [pint n, pint x] (.sc (.bool (decide (letP n x)))) := by
  refine SC.go {} tok mixed Try.func47 rfl rfl Try.ntmps47 rfl rfl (by kernel_rfl) ?_
  first | simp only [updS] | simp only [updL, Nat.reduceAdd]
  by_cases h1 : -n < x
  · by_cases h2 : x < n
    · by_cases h3 : x = 0
      · repeat (first | refine S0 ?_ | refine S1 ?_ | refine S2 ?_ | refine S7 ?_ | refine S8 ?_ | refine S19 ?_ | refine S20 ?_ | refine S21 ?_ | refine S29 ?_ | refine S30 ?_ | refine S35 ?_ | refine S37 ?_ | refine S38 ?_ | refine S40 ?_ | refine S41 ?_)
        rw [show decide (letP n x) = false from decide_eq_false (fun e => e.1 h3)]
        have e : (!decide (x = 0)) = false := by simpa using h3
        rw [e]
        exact ⟨.inr rfl, .cl rfl⟩
      · repeat (first | refine S0 ?_ | refine S1 ?_ | refine S2 ?_ | refine S7 ?_ | refine S8 ?_ | refine S19 ?_ | refine S20 ?_ | refine S21 ?_ | refine S29 ?_ | refine S30 ?_ | refine S35 ?_ | refine S37 ?_ | refine S38 ?_ | refine S40 ?_ | refine S41 ?_)
        rw [show decide (letP n x) = true from decide_eq_true ⟨h3, h2, h1⟩]
        have e : (!decide (x = 0)) = true := by simpa using h3
        rw [e]
        exact ⟨.inr rfl, .cl rfl⟩
    · repeat (first | refine S0 ?_ | refine S1 ?_ | refine S2 ?_ | refine S7 ?_ | refine S8 ?_ | refine S19 ?_ | refine S20 ?_ | refine S21 ?_ | refine S29 ?_ | refine S30 ?_ | refine S35 ?_ | refine S37 ?_ | refine S38 ?_ | refine S40 ?_ | refine S41 ?_)
      rw [show decide (letP n x) = false from decide_eq_false (fun e => h2 e.2.1)]
      exact ⟨.inr rfl, .cl rfl⟩
  · repeat (first | refine S0 ?_ | refine S1 ?_ | refine S2 ?_ | refine S7 ?_ | refine S8 ?_ | refine S19 ?_ | refine S20 ?_ | refine S21 ?_ | refine S29 ?_ | refine S30 ?_ | refine S35 ?_ | refine S37 ?_ | refine S38 ?_ | refine S40 ?_ | refine S41 ?_)
    rw [show decide (letP n x) = false from decide_eq_false (fun e => h1 e.2.2)]
    exact ⟨.inr rfl, .cl rfl⟩
set_option maxHeartbeats 2000000 in
set_option maxRecDepth 100000 in
theorem check1_s (n x : Int) (hn : 1 ≤ n ∧ n ≤ 6) : SC Try.prog 46 [pint x, .lptr [pint n]] (.sc (.bool (!decide (letP n x)))) := by
  refine SC.go {} tok mixed Try.func46 rfl rfl Try.ntmps46 rfl rfl (by kernel_rfl) ?_
  first | simp only [updS] | simp only [updL, Nat.reduceAdd]
  have hL := letter_s n x hn
  repeat (first | refine S0 ?_ | refine S1 ?_ | refine S2 ?_ | refine S7 ?_ | refine S8 ?_ | refine S19 ?_ | refine S20 ?_ | refine S26 ?_ | refine S36 ?_)
  refine Scall (args := [pint n, pint x]) hL ?_
  repeat (first | refine S0 ?_ | refine S1 ?_ | refine S2 ?_ | refine S7 ?_ | refine S8 ?_ | refine S19 ?_ | refine S20 ?_ | refine S26 ?_ | refine S36 ?_)
  exact ⟨.inr rfl, .cl rfl⟩
theorem bF_let {n : Int} {w : List Int} (h1 : ¬ (n < 1 ∨ 6 < n)) (h2 : ¬ 30 < w.length) (h : ∀ k, k < w.length → letP n (w.getD k 0)) : bF n w = 0 := by
  unfold bF; rw [if_neg h1, if_neg h2, if_pos]
  intro x hx
  obtain ⟨i, hi, rfl⟩ := List.getElem_of_mem hx
  have := h i hi
  rwa [getD_lt 0 hi] at this
theorem bF_bad {n : Int} {w : List Int} (h1 : ¬ (n < 1 ∨ 6 < n)) (h2 : ¬ 30 < w.length) {k : Nat} (hk : k < w.length) (h : ¬ letP n (w.getD k 0)) : bF n w = 3 := by
  unfold bF; rw [if_neg h1, if_neg h2, if_neg]
  intro hh
  exact h (by rw [getD_lt 0 hk]; exact hh _ (List.getElem_mem hk))
theorem bF_ok {n : Int} {w : List Int} (h : bF n w = 0) : (1 ≤ n ∧ n ≤ 6) ∧ w.length ≤ 30 ∧ ∀ x ∈ w, letP n x := by
  unfold bF at h
  split at h
  · cases h
  · split at h
    · cases h
    · split at h
      · rename_i h1 h2 h3; exact ⟨by omega, by omega, h3⟩
      · cases h
theorem contains_bad {n : Int} {w : List Int} (hn : 1 ≤ n ∧ n ≤ 6) (hl : w.length ≤ 30) : SC Try.prog 45 [pli w, .clo 46 [.lptr [pint n]]] (.sc (.bool (decide (¬ ∀ x ∈ w, letP n x)))) := by
  by_cases hall : ∀ x ∈ w, letP n x
  · refine containsFunc_x rfl (indexFunc_none (by omega) rfl (fun k hk => ?_)) (by rw [decide_eq_false (by decide)]; exact (decide_eq_false (fun c => c hall)).symm)
    have := check1_s n (w.getD k 0) hn
    rwa [decide_eq_true (hall _ (by rw [getD_lt 0 hk]; exact List.getElem_mem hk))] at this
  · have hex : ∃ k, k < w.length ∧ ¬ letP n (w.getD k 0) := by
      apply Classical.byContradiction; intro hc
      apply hall
      intro x hx
      obtain ⟨i, hi, rfl⟩ := List.getElem_of_mem hx
      apply Classical.byContradiction; intro h3
      exact hc ⟨i, hi, by rw [getD_lt 0 hi]; exact h3⟩
    obtain ⟨m, ⟨hm, hbad⟩, hmin⟩ := exists_least _ hex
    refine containsFunc_x rfl (indexFunc_some (by omega) rfl hm (fun k hk => ?_) ?_) (by rw [decide_eq_true (by omega)]; exact (decide_eq_true hall).symm)
    · have := check1_s n (w.getD k 0) hn
      have hl2 : letP n (w.getD k 0) := by
        apply Classical.byContradiction; intro h3
        have := hmin k ⟨by omega, h3⟩
        omega
      rwa [decide_eq_true hl2] at this
    · have := check1_s n (w.getD m 0) hn
      rwa [decide_eq_false hbad] at this
set_option maxHeartbeats 2000000 in
set_option maxRecDepth 100000 in
theorem bcheck_s (n : Int) (w : List Int) : SC Try.prog 23 [pint n, pli w] (pint (bF n w)) := by
  refine SC.go {} tok mixed Try.func23 rfl rfl Try.ntmps23 rfl rfl (by kernel_rfl) ?_
  first | simp only [updS] | simp only [updL, Nat.reduceAdd]
  by_cases h1 : n < 1
  · have e : bF n w = 1 := by unfold bF; rw [if_pos (.inl h1)]
    rw [e]
    repeat (first | refine S0 ?_ | refine S1 ?_ | refine S2 ?_ | refine S4 ?_ | refine S5 ?_ | refine S7 ?_ | refine S8 ?_ | refine S9 ?_ | refine S11 ?_ | refine S12 ?_ | refine S15 ?_ | refine S16 ?_ | refine S19 ?_ | refine S20 ?_ | refine S21 ?_ | refine S23 ?_ | refine S26 ?_ | refine S30 ?_ | refine S37 ?_ | refine S38 ?_ | refine S40 ?_ | refine S41 ?_ | refine S56 ?_ | refine S73 ?_)
    exact ⟨.inr rfl, .cl rfl⟩
  · by_cases h2 : 6 < n
    · have e : bF n w = 1 := by unfold bF; rw [if_pos (.inr h2)]
      rw [e]
      repeat (first | refine S0 ?_ | refine S1 ?_ | refine S2 ?_ | refine S4 ?_ | refine S5 ?_ | refine S7 ?_ | refine S8 ?_ | refine S9 ?_ | refine S11 ?_ | refine S12 ?_ | refine S15 ?_ | refine S16 ?_ | refine S19 ?_ | refine S20 ?_ | refine S21 ?_ | refine S23 ?_ | refine S26 ?_ | refine S30 ?_ | refine S37 ?_ | refine S38 ?_ | refine S40 ?_ | refine S41 ?_ | refine S56 ?_ | refine S73 ?_)
      exact ⟨.inr rfl, .cl rfl⟩
    · by_cases h3 : 30 < w.length
      · have e : bF n w = 2 := by unfold bF; rw [if_neg (by omega), if_pos h3]
        rw [e]
        repeat (first | refine S0 ?_ | refine S1 ?_ | refine S2 ?_ | refine S4 ?_ | refine S5 ?_ | refine S7 ?_ | refine S8 ?_ | refine S9 ?_ | refine S11 ?_ | refine S12 ?_ | refine S15 ?_ | refine S16 ?_ | refine S19 ?_ | refine S20 ?_ | refine S21 ?_ | refine S23 ?_ | refine S26 ?_ | refine S30 ?_ | refine S37 ?_ | refine S38 ?_ | refine S40 ?_ | refine S41 ?_ | refine S56 ?_ | refine S73 ?_)
        exact ⟨.inr rfl, .cl rfl⟩
      · have hC := contains_bad (n := n) (w := w) ⟨by omega, by omega⟩ (by omega)
        by_cases hall : ∀ x ∈ w, letP n x
        · have e : bF n w = 0 := by unfold bF; rw [if_neg (by omega), if_neg h3, if_pos hall]
          rw [e]
          rw [decide_eq_false (fun c => c hall)] at hC
          repeat (first | refine S0 ?_ | refine S1 ?_ | refine S2 ?_ | refine S4 ?_ | refine S5 ?_ | refine S7 ?_ | refine S8 ?_ | refine S9 ?_ | refine S11 ?_ | refine S12 ?_ | refine S15 ?_ | refine S16 ?_ | refine S19 ?_ | refine S20 ?_ | refine S21 ?_ | refine S23 ?_ | refine S26 ?_ | refine S30 ?_ | refine S37 ?_ | refine S38 ?_ | refine S40 ?_ | refine S41 ?_ | refine S56 ?_ | refine S73 ?_)
          refine Scall (args := [pli w, .clo 46 [.lptr [pint n]]]) hC ?_
          repeat (first | refine S0 ?_ | refine S1 ?_ | refine S2 ?_ | refine S4 ?_ | refine S5 ?_ | refine S7 ?_ | refine S8 ?_ | refine S9 ?_ | refine S11 ?_ | refine S12 ?_ | refine S15 ?_ | refine S16 ?_ | refine S19 ?_ | refine S20 ?_ | refine S21 ?_ | refine S23 ?_ | refine S26 ?_ | refine S30 ?_ | refine S37 ?_ | refine S38 ?_ | refine S40 ?_ | refine S41 ?_ | refine S56 ?_ | refine S73 ?_)
          exact ⟨.inr rfl, .cl rfl⟩
        · have e : bF n w = 3 := by unfold bF; rw [if_neg (by omega), if_neg h3, if_neg hall]
          rw [e]
          rw [decide_eq_true hall] at hC
          repeat (first | refine S0 ?_ | refine S1 ?_ | refine S2 ?_ | refine S4 ?_ | refine S5 ?_ | refine S7 ?_ | refine S8 ?_ | refine S9 ?_ | refine S11 ?_ | refine S12 ?_ | refine S15 ?_ | refine S16 ?_ | refine S19 ?_ | refine S20 ?_ | refine S21 ?_ | refine S23 ?_ | refine S26 ?_ | refine S30 ?_ | refine S37 ?_ | refine S38 ?_ | refine S40 ?_ | refine S41 ?_ | refine S56 ?_ | refine S73 ?_)
          refine Scall (args := [pli w, .clo 46 [.lptr [pint n]]]) hC ?_
          repeat (first | refine S0 ?_ | refine S1 ?_ | refine S2 ?_ | refine S4 ?_ | refine S5 ?_ | refine S7 ?_ | refine S8 ?_ | refine S9 ?_ | refine S11 ?_ | refine S12 ?_ | refine S15 ?_ | refine S16 ?_ | refine S19 ?_ | refine S20 ?_ | refine S21 ?_ | refine S23 ?_ | refine S26 ?_ | refine S30 ?_ | refine S37 ?_ | refine S38 ?_ | refine S40 ?_ | refine S41 ?_ | refine S56 ?_ | refine S73 ?_)
          exact ⟨.inr rfl, .cl rfl⟩
set_option maxHeartbeats 2000000 in
set_option maxRecDepth 100000 in
theorem bfault_s (n : Int) (w : List Int) : SC Try.prog 7 [pint n, pli w] (pint (bF n w)) := by
  refine SC.go {} tok mixed Try.func7 rfl rfl Try.ntmps7 rfl rfl (by kernel_rfl) ?_
  first | simp only [updS] | simp only [updL, Nat.reduceAdd]
  by_cases h1 : n < 1
  · have e : bF n w = 1 := by unfold bF; rw [if_pos (.inl h1)]
    rw [e]
    repeat (first | refine S0 ?_ | refine S1 ?_ | refine S2 ?_ | refine S4 ?_ | refine S5 ?_ | refine S6 ?_ | refine S7 ?_ | refine S8 ?_ | refine S9 ?_ | refine S10 ?_ | refine S11 ?_ | refine S12 ?_ | refine S13 ?_ | refine S15 ?_ | refine S16 ?_ | refine S19 ?_ | refine S20 ?_ | refine S21 ?_ | refine S22 ?_ | refine S23 ?_ | refine S25 ?_ | refine S26 ?_ | refine S28 ?_ | refine S30 ?_ | refine S31 ?_ | refine S32 ?_ | refine S35 ?_ | refine S37 ?_ | refine S38 ?_ | refine S40 ?_ | refine S41 ?_)
    exact ⟨.inr rfl, .cl rfl⟩
  · by_cases h2 : 6 < n
    · have e : bF n w = 1 := by unfold bF; rw [if_pos (.inr h2)]
      rw [e]
      repeat (first | refine S0 ?_ | refine S1 ?_ | refine S2 ?_ | refine S4 ?_ | refine S5 ?_ | refine S6 ?_ | refine S7 ?_ | refine S8 ?_ | refine S9 ?_ | refine S10 ?_ | refine S11 ?_ | refine S12 ?_ | refine S13 ?_ | refine S15 ?_ | refine S16 ?_ | refine S19 ?_ | refine S20 ?_ | refine S21 ?_ | refine S22 ?_ | refine S23 ?_ | refine S25 ?_ | refine S26 ?_ | refine S28 ?_ | refine S30 ?_ | refine S31 ?_ | refine S32 ?_ | refine S35 ?_ | refine S37 ?_ | refine S38 ?_ | refine S40 ?_ | refine S41 ?_)
      exact ⟨.inr rfl, .cl rfl⟩
    · by_cases h3 : 30 < w.length
      · have e : bF n w = 2 := by unfold bF; rw [if_neg (by omega), if_pos h3]
        rw [e]
        repeat (first | refine S0 ?_ | refine S1 ?_ | refine S2 ?_ | refine S4 ?_ | refine S5 ?_ | refine S6 ?_ | refine S7 ?_ | refine S8 ?_ | refine S9 ?_ | refine S10 ?_ | refine S11 ?_ | refine S12 ?_ | refine S13 ?_ | refine S15 ?_ | refine S16 ?_ | refine S19 ?_ | refine S20 ?_ | refine S21 ?_ | refine S22 ?_ | refine S23 ?_ | refine S25 ?_ | refine S26 ?_ | refine S28 ?_ | refine S30 ?_ | refine S31 ?_ | refine S32 ?_ | refine S35 ?_ | refine S37 ?_ | refine S38 ?_ | refine S40 ?_ | refine S41 ?_)
        exact ⟨.inr rfl, .cl rfl⟩
      · repeat (first | refine S0 ?_ | refine S1 ?_ | refine S2 ?_ | refine S4 ?_ | refine S5 ?_ | refine S6 ?_ | refine S7 ?_ | refine S8 ?_ | refine S9 ?_ | refine S10 ?_ | refine S11 ?_ | refine S12 ?_ | refine S13 ?_ | refine S15 ?_ | refine S16 ?_ | refine S19 ?_ | refine S20 ?_ | refine S21 ?_ | refine S22 ?_ | refine S23 ?_ | refine S25 ?_ | refine S26 ?_ | refine S28 ?_ | refine S30 ?_ | refine S31 ?_ | refine S32 ?_ | refine S35 ?_ | refine S37 ?_ | refine S38 ?_ | refine S40 ?_ | refine S41 ?_)
        refine CW.loopS (fun k : Nat => k ≤ w.length ∧ ∀ j, j < k → letP n (w.getD j 0)) (fun k => [(0, pint n), (16, pli w), (17, pint w.length), (18, pint k)]) (fun _ _ => True) (fun k => w.length - k) 0 ⟨⟨by omega, fun j hj => by omega⟩, SLx, trivial⟩ ?_
        rintro k t hp ⟨hk, hg⟩ _
        first | simp only [updS] | simp only [updL, Nat.reduceAdd]
        by_cases hk2 : k < w.length
        · by_cases c1 : w.getD k 0 = 0
          · have e := bF_bad (n := n) (by omega) h3 hk2 (fun c => c.1 c1)
            rw [e]
            repeat (first | refine S0 ?_ | refine S1 ?_ | refine S2 ?_ | refine S4 ?_ | refine S5 ?_ | refine S6 ?_ | refine S7 ?_ | refine S8 ?_ | refine S9 ?_ | refine S10 ?_ | refine S11 ?_ | refine S12 ?_ | refine S13 ?_ | refine S15 ?_ | refine S16 ?_ | refine S19 ?_ | refine S20 ?_ | refine S21 ?_ | refine S22 ?_ | refine S23 ?_ | refine S25 ?_ | refine S26 ?_ | refine S28 ?_ | refine S30 ?_ | refine S31 ?_ | refine S32 ?_ | refine S35 ?_ | refine S37 ?_ | refine S38 ?_ | refine S40 ?_ | refine S41 ?_)
            exact ⟨.inr rfl, .cl rfl⟩
          · by_cases c2 : n ≤ w.getD k 0
            · have e := bF_bad (n := n) (by omega) h3 hk2 (fun c => absurd c.2.1 (by omega))
              rw [e]
              repeat (first | refine S0 ?_ | refine S1 ?_ | refine S2 ?_ | refine S4 ?_ | refine S5 ?_ | refine S6 ?_ | refine S7 ?_ | refine S8 ?_ | refine S9 ?_ | refine S10 ?_ | refine S11 ?_ | refine S12 ?_ | refine S13 ?_ | refine S15 ?_ | refine S16 ?_ | refine S19 ?_ | refine S20 ?_ | refine S21 ?_ | refine S22 ?_ | refine S23 ?_ | refine S25 ?_ | refine S26 ?_ | refine S28 ?_ | refine S30 ?_ | refine S31 ?_ | refine S32 ?_ | refine S35 ?_ | refine S37 ?_ | refine S38 ?_ | refine S40 ?_ | refine S41 ?_)
              exact ⟨.inr rfl, .cl rfl⟩
            · by_cases c3 : w.getD k 0 ≤ -n
              · have e := bF_bad (n := n) (by omega) h3 hk2 (fun c => absurd c.2.2 (by omega))
                rw [e]
                repeat (first | refine S0 ?_ | refine S1 ?_ | refine S2 ?_ | refine S4 ?_ | refine S5 ?_ | refine S6 ?_ | refine S7 ?_ | refine S8 ?_ | refine S9 ?_ | refine S10 ?_ | refine S11 ?_ | refine S12 ?_ | refine S13 ?_ | refine S15 ?_ | refine S16 ?_ | refine S19 ?_ | refine S20 ?_ | refine S21 ?_ | refine S22 ?_ | refine S23 ?_ | refine S25 ?_ | refine S26 ?_ | refine S28 ?_ | refine S30 ?_ | refine S31 ?_ | refine S32 ?_ | refine S35 ?_ | refine S37 ?_ | refine S38 ?_ | refine S40 ?_ | refine S41 ?_)
                exact ⟨.inr rfl, .cl rfl⟩
              · repeat (first | refine S0 ?_ | refine S1 ?_ | refine S2 ?_ | refine S4 ?_ | refine S5 ?_ | refine S6 ?_ | refine S7 ?_ | refine S8 ?_ | refine S9 ?_ | refine S10 ?_ | refine S11 ?_ | refine S12 ?_ | refine S13 ?_ | refine S15 ?_ | refine S16 ?_ | refine S19 ?_ | refine S20 ?_ | refine S21 ?_ | refine S22 ?_ | refine S23 ?_ | refine S25 ?_ | refine S26 ?_ | refine S28 ?_ | refine S30 ?_ | refine S31 ?_ | refine S32 ?_ | refine S35 ?_ | refine S37 ?_ | refine S38 ?_ | refine S40 ?_ | refine S41 ?_)
                refine ⟨k + 1, ⟨by omega, fun j hj => ?_⟩, SLx, trivial, by omega⟩
                by_cases e : j = k
                · subst e; exact ⟨c1, by omega, by omega⟩
                · exact hg j (by omega)
        · have e := bF_let (n := n) (by omega) h3 (fun j hj => hg j (by omega))
          rw [e]
          repeat (first | refine S0 ?_ | refine S1 ?_ | refine S2 ?_ | refine S4 ?_ | refine S5 ?_ | refine S6 ?_ | refine S7 ?_ | refine S8 ?_ | refine S9 ?_ | refine S10 ?_ | refine S11 ?_ | refine S12 ?_ | refine S13 ?_ | refine S15 ?_ | refine S16 ?_ | refine S19 ?_ | refine S20 ?_ | refine S21 ?_ | refine S22 ?_ | refine S23 ?_ | refine S25 ?_ | refine S26 ?_ | refine S28 ?_ | refine S30 ?_ | refine S31 ?_ | refine S32 ?_ | refine S35 ?_ | refine S37 ?_ | refine S38 ?_ | refine S40 ?_ | refine S41 ?_)
          exact ⟨.inr rfl, .cl rfl⟩
end Go.Proofs.Ytdlpbpfcgjgppaa

/- Facts and contracts that the claim uses. No condition of its own. -/
set_option linter.unusedVariables false
set_option linter.unusedSimpArgs false
namespace Go.Proofs.Ytdlpbpfcgjgppaa
open Go.RowKit
def absI (x : Int) : Int := if x < -x then -x else x
def sgI (x : Int) : Int := if 0 < x then 1 else -1
theorem abs_let {n x : Int} (h : letP n x) (hn : n ≤ 6) : 1 ≤ absI x ∧ absI x ≤ n - 1 ∧ (x = absI x ∨ x = -absI x) ∧ -6 < x ∧ x < 6 := by
  obtain ⟨h1, h2, h3⟩ := h
  unfold absI; split <;> omega
set_option maxHeartbeats 2000000 in
set_option maxRecDepth 100000 in
theorem bindex_s (x : Int) (h : -9000000000000000000 ≤ x ∧ x ≤ 9000000000000000000) : SC Try.prog 51 [pint x] (pint (absI x)) := by
  refine SC.go {} tok mixed Try.func51 rfl rfl Try.ntmps51 rfl rfl (by kernel_rfl) ?_
  first | simp only [updS] | simp only [updL, Nat.reduceAdd]
  repeat (first | refine S0 ?_ | refine S1 ?_ | refine S2 ?_ | refine S7 ?_ | refine S8 ?_ | refine S19 ?_ | refine S20 ?_ | refine S35 ?_ | refine S54 ?_)
  exact ⟨.inr rfl, .cl rfl⟩
set_option maxHeartbeats 2000000 in
set_option maxRecDepth 100000 in
theorem rindex_s (x : Int) (h : -9000000000000000000 ≤ x ∧ x ≤ 9000000000000000000) : SC Try.prog 30 [pint x] (pint (absI x)) := by
  refine SC.go {} tok mixed Try.func30 rfl rfl Try.ntmps30 rfl rfl (by kernel_rfl) ?_
  first | simp only [updS] | simp only [updL, Nat.reduceAdd]
  repeat (first | refine S0 ?_ | refine S1 ?_ | refine S2 ?_ | refine S7 ?_ | refine S8 ?_ | refine S19 ?_ | refine S20 ?_ | refine S35 ?_ | refine S54 ?_)
  exact ⟨.inr rfl, .cl rfl⟩
end Go.Proofs.Ytdlpbpfcgjgppaa
