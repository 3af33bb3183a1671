/- laurent: Check, Fit, Times, Mul; the reference's PolyFault and Fits. No condition of its own. -/
import Derived.Test.YtenoiklocdoemaaGTopBurauDetAV
import Derived.Test.YtenoiklocdoemaaGTopBurauDetAZ
set_option linter.unusedVariables false
set_option linter.unusedSimpArgs false
namespace Go.Proofs.Ytenoiklocdoemaa
open Go.RowKit

def okc (x : Int) : Prop := -100000000 ≤ x ∧ x ≤ 100000000
instance (x : Int) : Decidable (okc x) := by unfold okc; exact inferInstance
instance (p : Po) : Decidable (canon p) := by unfold canon; exact inferInstance
def pF (p : Po) : Int := if 200 < p.2.length ∨ 1000 < p.1 ∨ p.1 < -1000 then 2 else if ¬ canon p then 3 else if ∀ x ∈ p.2, okc x then 0 else 1
theorem pF_ok {p : Po} (h : pF p = 0) : p.2.length ≤ 200 ∧ (-1000 ≤ p.1 ∧ p.1 ≤ 1000) ∧ canon p ∧ ∀ x ∈ p.2, okc x := by
  unfold pF at h
  split at h
  · cases h
  · split at h
    · cases h
    · split at h
      · rename_i h1 h2 h3
        exact ⟨by omega, by omega, Classical.byContradiction h2, h3⟩
      · cases h
theorem pF_big {p : Po} (h : 200 < p.2.length ∨ 1000 < p.1 ∨ p.1 < -1000) : pF p = 2 := if_pos h
theorem pF_mal {p : Po} (h : ¬ (200 < p.2.length ∨ 1000 < p.1 ∨ p.1 < -1000)) (h2 : ¬ canon p) : pF p = 3 := by unfold pF; rw [if_neg h, if_pos h2]
theorem pF_all {p : Po} (h : ¬ (200 < p.2.length ∨ 1000 < p.1 ∨ p.1 < -1000)) (h2 : canon p) (h3 : ∀ k, k < p.2.length → okc (p.2.getD k 0)) : pF p = 0 := by
  unfold pF; rw [if_neg h, if_neg (fun hh => hh h2), if_pos]
  intro x hx
  obtain ⟨i, hi, rfl⟩ := List.getElem_of_mem hx
  have := h3 i hi
  rwa [getD_lt 0 hi] at this
set_option maxHeartbeats 2000000 in
set_option maxRecDepth 100000 in
theorem pcheck1_s (x : Int) : SC Try.prog 73 [pint x] (.sc (.bool (decide (¬ okc x)))) := by
  refine SC.go {} tok mixed Try.func73 rfl rfl Try.ntmps73 rfl rfl (by kernel_rfl) ?_
  first | simp only [updS] | simp only [updL, Nat.reduceAdd]
  by_cases h1 : x < -100000000
  · rw [decide_eq_true (by unfold okc; omega)]
    repeat (first | refine S0 ?_ | refine S1 ?_ | refine S2 ?_ | refine S5 ?_ | refine S7 ?_ | refine S8 ?_ | refine S9 ?_ | refine S15 ?_ | refine S16 ?_ | refine S19 ?_ | refine S20 ?_ | refine S21 ?_ | refine S23 ?_ | refine S25 ?_ | refine S26 ?_ | refine S28 ?_ | refine S29 ?_ | refine S30 ?_ | refine S33 ?_ | refine S37 ?_ | refine S38 ?_ | refine S39 ?_ | refine S40 ?_ | refine S41 ?_ | refine S43 ?_ | refine S44 ?_ | refine S47 ?_ | refine S66 ?_ | refine S68 ?_ | refine S69 ?_)
    exact ⟨.inr rfl, .cl rfl⟩
  · by_cases h2 : 100000000 < x
    · rw [decide_eq_true (by unfold okc; omega)]
      repeat (first | refine S0 ?_ | refine S1 ?_ | refine S2 ?_ | refine S5 ?_ | refine S7 ?_ | refine S8 ?_ | refine S9 ?_ | refine S15 ?_ | refine S16 ?_ | refine S19 ?_ | refine S20 ?_ | refine S21 ?_ | refine S23 ?_ | refine S25 ?_ | refine S26 ?_ | refine S28 ?_ | refine S29 ?_ | refine S30 ?_ | refine S33 ?_ | refine S37 ?_ | refine S38 ?_ | refine S39 ?_ | refine S40 ?_ | refine S41 ?_ | refine S43 ?_ | refine S44 ?_ | refine S47 ?_ | refine S66 ?_ | refine S68 ?_ | refine S69 ?_)
      exact ⟨.inr rfl, by rw [decide_eq_true h2]; exact .cl rfl⟩
    · rw [decide_eq_false (by unfold okc; omega)]
      repeat (first | refine S0 ?_ | refine S1 ?_ | refine S2 ?_ | refine S5 ?_ | refine S7 ?_ | refine S8 ?_ | refine S9 ?_ | refine S15 ?_ | refine S16 ?_ | refine S19 ?_ | refine S20 ?_ | refine S21 ?_ | refine S23 ?_ | refine S25 ?_ | refine S26 ?_ | refine S28 ?_ | refine S29 ?_ | refine S30 ?_ | refine S33 ?_ | refine S37 ?_ | refine S38 ?_ | refine S39 ?_ | refine S40 ?_ | refine S41 ?_ | refine S43 ?_ | refine S44 ?_ | refine S47 ?_ | refine S66 ?_ | refine S68 ?_ | refine S69 ?_)
      exact ⟨.inr rfl, by rw [decide_eq_false h2]; exact .cl rfl⟩
theorem contains_gen {f : FuncId} {p : Int → Prop} [DecidablePred p] (h : ∀ x, SC Try.prog f [pint x] (.sc (.bool (decide (¬ p x))))) (c : List Int) (hl : c.length ≤ 1000000) : SC Try.prog 53 [pli c, .clo f []] (.sc (.bool (decide (¬ ∀ x ∈ c, p x)))) := by
  by_cases hall : ∀ x ∈ c, p x
  · refine containsFunc_x rfl (indexFunc_none (by omega) rfl (fun k hk => ?_)) (by rw [decide_eq_false (by decide)]; exact (decide_eq_false (fun c => c hall)).symm)
    have := h (c.getD k 0)
    rwa [decide_eq_false (fun hh => hh (hall _ (by rw [getD_lt 0 hk]; exact List.getElem_mem hk)))] at this
  · have hex : ∃ k, k < c.length ∧ ¬ p (c.getD k 0) := by
      apply Classical.byContradiction; intro hc
      apply hall
      intro x hx
      obtain ⟨i, hi, rfl⟩ := List.getElem_of_mem hx
      apply Classical.byContradiction; intro h3
      exact hc ⟨i, hi, by rw [getD_lt 0 hi]; exact h3⟩
    obtain ⟨m, ⟨hm, hbad⟩, hmin⟩ := exists_least _ hex
    refine containsFunc_x rfl (indexFunc_some (by omega) rfl hm (fun k hk => ?_) ?_) (by rw [decide_eq_true (by omega)]; exact (decide_eq_true hall).symm)
    · have := h (c.getD k 0)
      have hl2 : p (c.getD k 0) := by
        apply Classical.byContradiction; intro h3
        have := hmin k ⟨by omega, h3⟩
        omega
      rwa [decide_eq_false (fun hh => hh hl2)] at this
    · have := h (c.getD m 0)
      rwa [decide_eq_true hbad] at this
theorem pcontains (c : List Int) (hl : c.length ≤ 1000000) : SC Try.prog 53 [pli c, .clo 73 []] (.sc (.bool (decide (¬ ∀ x ∈ c, okc x)))) := contains_gen pcheck1_s c hl
theorem canon_nil_iff {l : Int} : canon (l, []) ↔ l = 0 := by simp [canon]
theorem canon_cons_iff {l : Int} {c : List Int} (h : 0 < c.length) : canon (l, c) ↔ c.getD 0 0 ≠ 0 ∧ c.getD (c.length - 1) 0 ≠ 0 := by
  have : c ≠ [] := List.length_pos_iff.1 h
  simp [canon, this]
set_option maxHeartbeats 4000000 in
set_option maxRecDepth 100000 in
theorem pcheck_s (p : Po) : SC Try.prog 62 [ppo p] (pint (pF p)) := by
  obtain ⟨l, c⟩ := p
  refine SC.go {} tok mixed Try.func62 rfl rfl Try.ntmps62 rfl rfl (by kernel_rfl) ?_
  first | simp only [updS] | simp only [updL, Nat.reduceAdd]
  by_cases h1 : 200 < c.length
  · rw [pF_big (.inl h1)]
    repeat (first | refine S0 ?_ | refine S1 ?_ | refine S2 ?_ | refine S5 ?_ | refine S7 ?_ | refine S8 ?_ | refine S9 ?_ | refine S15 ?_ | refine S16 ?_ | refine S19 ?_ | refine S20 ?_ | refine S21 ?_ | refine S23 ?_ | refine S25 ?_ | refine S26 ?_ | refine S28 ?_ | refine S29 ?_ | refine S30 ?_ | refine S33 ?_ | refine S37 ?_ | refine S38 ?_ | refine S39 ?_ | refine S40 ?_ | refine S41 ?_ | refine S43 ?_ | refine S44 ?_ | refine S47 ?_ | refine S66 ?_ | refine S68 ?_ | refine S69 ?_)
    exact ⟨.inr rfl, .cl rfl⟩
  by_cases h2 : l < -1000
  · rw [pF_big (.inr (.inr h2))]
    repeat (first | refine S0 ?_ | refine S1 ?_ | refine S2 ?_ | refine S5 ?_ | refine S7 ?_ | refine S8 ?_ | refine S9 ?_ | refine S15 ?_ | refine S16 ?_ | refine S19 ?_ | refine S20 ?_ | refine S21 ?_ | refine S23 ?_ | refine S25 ?_ | refine S26 ?_ | refine S28 ?_ | refine S29 ?_ | refine S30 ?_ | refine S33 ?_ | refine S37 ?_ | refine S38 ?_ | refine S39 ?_ | refine S40 ?_ | refine S41 ?_ | refine S43 ?_ | refine S44 ?_ | refine S47 ?_ | refine S66 ?_ | refine S68 ?_ | refine S69 ?_)
    exact ⟨.inr rfl, .cl rfl⟩
  by_cases h3 : 1000 < l
  · rw [pF_big (.inr (.inl h3))]
    repeat (first | refine S0 ?_ | refine S1 ?_ | refine S2 ?_ | refine S5 ?_ | refine S7 ?_ | refine S8 ?_ | refine S9 ?_ | refine S15 ?_ | refine S16 ?_ | refine S19 ?_ | refine S20 ?_ | refine S21 ?_ | refine S23 ?_ | refine S25 ?_ | refine S26 ?_ | refine S28 ?_ | refine S29 ?_ | refine S30 ?_ | refine S33 ?_ | refine S37 ?_ | refine S38 ?_ | refine S39 ?_ | refine S40 ?_ | refine S41 ?_ | refine S43 ?_ | refine S44 ?_ | refine S47 ?_ | refine S66 ?_ | refine S68 ?_ | refine S69 ?_)
    exact ⟨.inr rfl, .cl rfl⟩
  have hsz : ¬ (200 < ((l, c) : Po).2.length ∨ 1000 < ((l, c) : Po).1 ∨ ((l, c) : Po).1 < -1000) := by simp only; omega
  have fin : canon (l, c) → pF (l, c) = if ∀ x ∈ c, okc x then 0 else 1 := fun hc => by
    unfold pF; rw [if_neg hsz, if_neg (fun hh => hh hc)]
  by_cases h4 : c.length = 0
  · by_cases h5 : l = 0
    · obtain rfl : c = [] := List.length_eq_zero_iff.1 h4
      rw [fin (canon_nil_iff.2 h5)]
      repeat (first | refine S0 ?_ | refine S1 ?_ | refine S2 ?_ | refine S5 ?_ | refine S7 ?_ | refine S8 ?_ | refine S9 ?_ | refine S15 ?_ | refine S16 ?_ | refine S19 ?_ | refine S20 ?_ | refine S21 ?_ | refine S23 ?_ | refine S25 ?_ | refine S26 ?_ | refine S28 ?_ | refine S29 ?_ | refine S30 ?_ | refine S33 ?_ | refine S37 ?_ | refine S38 ?_ | refine S39 ?_ | refine S40 ?_ | refine S41 ?_ | refine S43 ?_ | refine S44 ?_ | refine S47 ?_ | refine S66 ?_ | refine S68 ?_ | refine S69 ?_)
      have hpc := pcontains [] (by simp)
      rw [decide_eq_false (by simp)] at hpc
      refine Scall (args := [pli [], .clo 73 []]) hpc ?_
      rw [if_pos (by simp)]
      repeat (first | refine S0 ?_ | refine S1 ?_ | refine S2 ?_ | refine S5 ?_ | refine S7 ?_ | refine S8 ?_ | refine S9 ?_ | refine S15 ?_ | refine S16 ?_ | refine S19 ?_ | refine S20 ?_ | refine S21 ?_ | refine S23 ?_ | refine S25 ?_ | refine S26 ?_ | refine S28 ?_ | refine S29 ?_ | refine S30 ?_ | refine S33 ?_ | refine S37 ?_ | refine S38 ?_ | refine S39 ?_ | refine S40 ?_ | refine S41 ?_ | refine S43 ?_ | refine S44 ?_ | refine S47 ?_ | refine S66 ?_ | refine S68 ?_ | refine S69 ?_)
      exact ⟨.inr rfl, .cl rfl⟩
    · obtain rfl : c = [] := List.length_eq_zero_iff.1 h4
      rw [pF_mal hsz (fun hh => h5 (canon_nil_iff.1 hh))]
      repeat (first | refine S0 ?_ | refine S1 ?_ | refine S2 ?_ | refine S5 ?_ | refine S7 ?_ | refine S8 ?_ | refine S9 ?_ | refine S15 ?_ | refine S16 ?_ | refine S19 ?_ | refine S20 ?_ | refine S21 ?_ | refine S23 ?_ | refine S25 ?_ | refine S26 ?_ | refine S28 ?_ | refine S29 ?_ | refine S30 ?_ | refine S33 ?_ | refine S37 ?_ | refine S38 ?_ | refine S39 ?_ | refine S40 ?_ | refine S41 ?_ | refine S43 ?_ | refine S44 ?_ | refine S47 ?_ | refine S66 ?_ | refine S68 ?_ | refine S69 ?_)
      exact ⟨.inr rfl, .cl rfl⟩
  · have e1 : ((c.length : Int) - 1).toNat = c.length - 1 := by omega
    by_cases h5 : c.getD (Int.toNat 0) 0 = 0
    · rw [pF_mal hsz (fun hh => ((canon_cons_iff (by omega)).1 hh).1 h5)]
      repeat (first | refine S0 ?_ | refine S1 ?_ | refine S2 ?_ | refine S5 ?_ | refine S7 ?_ | refine S8 ?_ | refine S9 ?_ | refine S15 ?_ | refine S16 ?_ | refine S19 ?_ | refine S20 ?_ | refine S21 ?_ | refine S23 ?_ | refine S25 ?_ | refine S26 ?_ | refine S28 ?_ | refine S29 ?_ | refine S30 ?_ | refine S33 ?_ | refine S37 ?_ | refine S38 ?_ | refine S39 ?_ | refine S40 ?_ | refine S41 ?_ | refine S43 ?_ | refine S44 ?_ | refine S47 ?_ | refine S66 ?_ | refine S68 ?_ | refine S69 ?_)
      exact ⟨.inr rfl, .cl rfl⟩
    · by_cases h6 : c.getD ((c.length : Int) - 1).toNat 0 = 0
      · rw [pF_mal hsz (fun hh => ((canon_cons_iff (by omega)).1 hh).2 (by rw [← e1]; exact h6))]
        repeat (first | refine S0 ?_ | refine S1 ?_ | refine S2 ?_ | refine S5 ?_ | refine S7 ?_ | refine S8 ?_ | refine S9 ?_ | refine S15 ?_ | refine S16 ?_ | refine S19 ?_ | refine S20 ?_ | refine S21 ?_ | refine S23 ?_ | refine S25 ?_ | refine S26 ?_ | refine S28 ?_ | refine S29 ?_ | refine S30 ?_ | refine S33 ?_ | refine S37 ?_ | refine S38 ?_ | refine S39 ?_ | refine S40 ?_ | refine S41 ?_ | refine S43 ?_ | refine S44 ?_ | refine S47 ?_ | refine S66 ?_ | refine S68 ?_ | refine S69 ?_)
        exact ⟨.inr rfl, .cl rfl⟩
      · rw [fin ((canon_cons_iff (by omega)).2 ⟨h5, by rw [← e1]; exact h6⟩)]
        repeat (first | refine S0 ?_ | refine S1 ?_ | refine S2 ?_ | refine S5 ?_ | refine S7 ?_ | refine S8 ?_ | refine S9 ?_ | refine S15 ?_ | refine S16 ?_ | refine S19 ?_ | refine S20 ?_ | refine S21 ?_ | refine S23 ?_ | refine S25 ?_ | refine S26 ?_ | refine S28 ?_ | refine S29 ?_ | refine S30 ?_ | refine S33 ?_ | refine S37 ?_ | refine S38 ?_ | refine S39 ?_ | refine S40 ?_ | refine S41 ?_ | refine S43 ?_ | refine S44 ?_ | refine S47 ?_ | refine S66 ?_ | refine S68 ?_ | refine S69 ?_)
        have hpc := pcontains c (by omega)
        by_cases h7 : ∀ x ∈ c, okc x
        · rw [decide_eq_false (fun hh => hh h7)] at hpc
          refine Scall (args := [pli c, .clo 73 []]) hpc ?_
          rw [if_pos h7]
          repeat (first | refine S0 ?_ | refine S1 ?_ | refine S2 ?_ | refine S5 ?_ | refine S7 ?_ | refine S8 ?_ | refine S9 ?_ | refine S15 ?_ | refine S16 ?_ | refine S19 ?_ | refine S20 ?_ | refine S21 ?_ | refine S23 ?_ | refine S25 ?_ | refine S26 ?_ | refine S28 ?_ | refine S29 ?_ | refine S30 ?_ | refine S33 ?_ | refine S37 ?_ | refine S38 ?_ | refine S39 ?_ | refine S40 ?_ | refine S41 ?_ | refine S43 ?_ | refine S44 ?_ | refine S47 ?_ | refine S66 ?_ | refine S68 ?_ | refine S69 ?_)
          exact ⟨.inr rfl, .cl rfl⟩
        · rw [decide_eq_true h7] at hpc
          refine Scall (args := [pli c, .clo 73 []]) hpc ?_
          rw [if_neg h7]
          repeat (first | refine S0 ?_ | refine S1 ?_ | refine S2 ?_ | refine S5 ?_ | refine S7 ?_ | refine S8 ?_ | refine S9 ?_ | refine S15 ?_ | refine S16 ?_ | refine S19 ?_ | refine S20 ?_ | refine S21 ?_ | refine S23 ?_ | refine S25 ?_ | refine S26 ?_ | refine S28 ?_ | refine S29 ?_ | refine S30 ?_ | refine S33 ?_ | refine S37 ?_ | refine S38 ?_ | refine S39 ?_ | refine S40 ?_ | refine S41 ?_ | refine S43 ?_ | refine S44 ?_ | refine S47 ?_ | refine S66 ?_ | refine S68 ?_ | refine S69 ?_)
          exact ⟨.inr rfl, .cl rfl⟩
/-- what Fit and Fits return -/
def fitP (p : Po) : PV := .tup [ppo (if pF p = 0 then p else (0, [])), pint (if pF p = 0 then 0 else 2)]
set_option maxHeartbeats 4000000 in
set_option maxRecDepth 100000 in
theorem fit_s (p : Po) : SC Try.prog 39 [ppo p] (fitP p) := by
  obtain ⟨l, c⟩ := p
  refine SC.go {} tok mixed Try.func39 rfl rfl Try.ntmps39 rfl rfl (by kernel_rfl) ?_
  first | simp only [updS] | simp only [updL, Nat.reduceAdd]
  repeat (first | refine S0 ?_ | refine S1 ?_ | refine S2 ?_ | refine S5 ?_ | refine S7 ?_ | refine S8 ?_ | refine S9 ?_ | refine S15 ?_ | refine S16 ?_ | refine S19 ?_ | refine S20 ?_ | refine S21 ?_ | refine S23 ?_ | refine S25 ?_ | refine S26 ?_ | refine S28 ?_ | refine S29 ?_ | refine S30 ?_ | refine S33 ?_ | refine S37 ?_ | refine S38 ?_ | refine S39 ?_ | refine S40 ?_ | refine S41 ?_ | refine S43 ?_ | refine S44 ?_ | refine S47 ?_ | refine S66 ?_ | refine S68 ?_ | refine S69 ?_)
  refine Scall (args := [ppo (l, c)]) (pcheck_s (l, c)) ?_
  unfold fitP
  by_cases h0 : pF (l, c) = 0
  · rw [if_pos h0, if_pos h0, h0]
    repeat (first | refine S0 ?_ | refine S1 ?_ | refine S2 ?_ | refine S5 ?_ | refine S7 ?_ | refine S8 ?_ | refine S9 ?_ | refine S15 ?_ | refine S16 ?_ | refine S19 ?_ | refine S20 ?_ | refine S21 ?_ | refine S23 ?_ | refine S25 ?_ | refine S26 ?_ | refine S28 ?_ | refine S29 ?_ | refine S30 ?_ | refine S33 ?_ | refine S37 ?_ | refine S38 ?_ | refine S39 ?_ | refine S40 ?_ | refine S41 ?_ | refine S43 ?_ | refine S44 ?_ | refine S47 ?_ | refine S66 ?_ | refine S68 ?_ | refine S69 ?_)
    refine ⟨.inr rfl, FR.cellTmp rfl HBx rfl rfl rfl (Fz.pair ?_ (.cl rfl))⟩
    exact .cl (by simp only [PV.cl, PV.cl.clL, pint_cl, pli_cl, Bool.and_self])
  · rw [if_neg h0, if_neg h0]
    repeat (first | refine S0 ?_ | refine S1 ?_ | refine S2 ?_ | refine S5 ?_ | refine S7 ?_ | refine S8 ?_ | refine S9 ?_ | refine S15 ?_ | refine S16 ?_ | refine S19 ?_ | refine S20 ?_ | refine S21 ?_ | refine S23 ?_ | refine S25 ?_ | refine S26 ?_ | refine S28 ?_ | refine S29 ?_ | refine S30 ?_ | refine S33 ?_ | refine S37 ?_ | refine S38 ?_ | refine S39 ?_ | refine S40 ?_ | refine S41 ?_ | refine S43 ?_ | refine S44 ?_ | refine S47 ?_ | refine S66 ?_ | refine S68 ?_ | refine S69 ?_)
    exact ⟨.inr rfl, FR.cellTmp rfl HBx rfl rfl rfl (Fz.pair (.nrm rfl) (.cl rfl))⟩
end Go.Proofs.Ytenoiklocdoemaa

/- The reference's PolyFault and Fits. No condition of its own. -/
set_option linter.unusedVariables false
set_option linter.unusedSimpArgs false
namespace Go.Proofs.Ytenoiklocdoemaa
open Go.RowKit

end Go.Proofs.Ytenoiklocdoemaa
