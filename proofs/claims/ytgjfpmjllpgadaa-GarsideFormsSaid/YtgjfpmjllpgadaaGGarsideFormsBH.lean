/- The reference's Tight; garside.Check, the reference's FactorsFault. No condition of its own. -/
import Derived.Test.YtgjfpmjllpgadaaGGarsideFormsBG
set_option linter.unusedVariables false
set_option linter.unusedSimpArgs false
namespace Go.Proofs.Ytgjfpmjllpgadaa
open Go.RowKit

set_option maxHeartbeats 16000000 in
set_option maxRecDepth 100000 in
theorem tight_s {n : Nat} {a b : List Int} (hn : 2 ≤ n ∧ n ≤ 6) (ha : permFault a = 0) (hal : a.length = n) (hbl : b.length = n) : SC Try.prog 105 [pli a, pli b] (.sc (.bool (tgt n a b))) := by
  obtain ⟨h9, hp⟩ := permFault_pm ha
  have ho := (order_bd ha).1
  have kb := rback_s (n := a.length) (F := fn a) (G := gn a) hp.tabN hp.lt (fun i hi => ⟨gn_lt hp i hi, fn_gn hp ho hi, gn_fn hp ho hi⟩) h9
  have hc : ∀ i, i < n → (tabN a.length (gn a)).getD i 0 = (gn a i : Int) := fun i hi => tabN_get (by omega)
  have hcl : (tabN a.length (gn a)).length = n := by rw [tab_len]; exact hal
  have hq : ∀ j, j + 1 < n → lsB n a b j = (decide (b.getD (j + 1) 0 < b.getD (((j + 1 : Nat) : Int) - 1).toNat 0) && decide ((tabN a.length (gn a)).getD (((j + 1 : Nat) : Int) - 1).toNat 0 < (tabN a.length (gn a)).getD (j + 1) 0)) := fun j hj => by
    have e1 : (((j + 1 : Nat) : Int) - 1).toNat = j := by omega
    unfold lsB; rw [e1, hc j (by omega), hc (j + 1) hj]
    congr 1
    exact decide_eq_decide.2 (by omega)
  by_cases hex : ∃ i, i + 1 < n ∧ lsB n a b i = true
  · obtain ⟨i, ⟨hi, hl⟩, hmin⟩ := exists_least (fun i => i + 1 < n ∧ lsB n a b i = true) hex
    rw [tgt_false hi hl]
    have hno : ∀ j, j < i → lsB n a b j = false := fun j hj => by
      cases hh : lsB n a b j with
      | false => rfl
      | true => have := hmin j ⟨by omega, hh⟩; omega
    refine SC.go {} tok mixed Try.func105 rfl rfl Try.ntmps105 rfl rfl (by kernel_rfl) ?_
    first | simp only [updS] | simp only [updL, Nat.reduceAdd]
    repeat (first | refine S0 ?_ | refine S1 ?_ | refine S2 ?_ | refine S3 ?_ | refine S4 ?_ | refine S5 ?_ | refine S6 ?_ | refine S7 ?_ | refine S8 ?_ | refine S9 ?_ | refine S10 ?_ | refine S11 ?_ | refine S12 ?_ | refine S13 ?_ | refine S15 ?_ | refine S16 ?_ | refine S19 ?_ | refine S20 ?_ | refine S21 ?_ | refine S22 ?_ | refine S23 ?_ | refine S25 ?_ | refine S26 ?_ | refine S29 ?_ | refine S30 ?_ | refine S32 ?_ | refine S33 ?_ | refine S37 ?_ | refine S38 ?_ | refine S39 ?_ | refine S40 ?_ | refine S41 ?_)
    refine Scall (args := [pli a]) kb ?_
    generalize tabN a.length (gn a) = c at *
    repeat (first | refine S0 ?_ | refine S1 ?_ | refine S2 ?_ | refine S3 ?_ | refine S4 ?_ | refine S5 ?_ | refine S6 ?_ | refine S7 ?_ | refine S8 ?_ | refine S9 ?_ | refine S10 ?_ | refine S11 ?_ | refine S12 ?_ | refine S13 ?_ | refine S15 ?_ | refine S16 ?_ | refine S19 ?_ | refine S20 ?_ | refine S21 ?_ | refine S22 ?_ | refine S23 ?_ | refine S25 ?_ | refine S26 ?_ | refine S29 ?_ | refine S30 ?_ | refine S32 ?_ | refine S33 ?_ | refine S37 ?_ | refine S38 ?_ | refine S39 ?_ | refine S40 ?_ | refine S41 ?_)
    refine CW.loopS (fun j : Nat => j ≤ i) (fun j => [(0, pli a), (1, pli b), (5, pli c), (6, pint ((j + 1 : Nat) : Int))]) (fun _ _ => True) (fun j => i - j) 0 ⟨Nat.zero_le _, SLx, trivial⟩ ?_
    rintro j t hp' hj _
    first | simp only [updS] | simp only [updL, Nat.reduceAdd]
    by_cases hji : j < i
    · have hf := hno j hji
      rw [hq j (by omega), Bool.and_eq_false_iff, decide_eq_false_iff_not, decide_eq_false_iff_not] at hf
      by_cases c1 : b.getD (j + 1) 0 < b.getD (((j + 1 : Nat) : Int) - 1).toNat 0
      · have c2 := hf.resolve_left (fun h => h c1)
        repeat (first | refine S0 ?_ | refine S1 ?_ | refine S2 ?_ | refine S3 ?_ | refine S4 ?_ | refine S5 ?_ | refine S6 ?_ | refine S7 ?_ | refine S8 ?_ | refine S9 ?_ | refine S10 ?_ | refine S11 ?_ | refine S12 ?_ | refine S13 ?_ | refine S15 ?_ | refine S16 ?_ | refine S19 ?_ | refine S20 ?_ | refine S21 ?_ | refine S22 ?_ | refine S23 ?_ | refine S25 ?_ | refine S26 ?_ | refine S29 ?_ | refine S30 ?_ | refine S32 ?_ | refine S33 ?_ | refine S37 ?_ | refine S38 ?_ | refine S39 ?_ | refine S40 ?_ | refine S41 ?_)
        exact ⟨j + 1, hji, SLx, trivial, by omega⟩
      · repeat (first | refine S0 ?_ | refine S1 ?_ | refine S2 ?_ | refine S3 ?_ | refine S4 ?_ | refine S5 ?_ | refine S6 ?_ | refine S7 ?_ | refine S8 ?_ | refine S9 ?_ | refine S10 ?_ | refine S11 ?_ | refine S12 ?_ | refine S13 ?_ | refine S15 ?_ | refine S16 ?_ | refine S19 ?_ | refine S20 ?_ | refine S21 ?_ | refine S22 ?_ | refine S23 ?_ | refine S25 ?_ | refine S26 ?_ | refine S29 ?_ | refine S30 ?_ | refine S32 ?_ | refine S33 ?_ | refine S37 ?_ | refine S38 ?_ | refine S39 ?_ | refine S40 ?_ | refine S41 ?_)
        exact ⟨j + 1, hji, SLx, trivial, by omega⟩
    · obtain rfl : j = i := by omega
      rw [hq j hi, Bool.and_eq_true, decide_eq_true_eq, decide_eq_true_eq] at hl
      obtain ⟨c1, c2⟩ := hl
      repeat (first | refine S0 ?_ | refine S1 ?_ | refine S2 ?_ | refine S3 ?_ | refine S4 ?_ | refine S5 ?_ | refine S6 ?_ | refine S7 ?_ | refine S8 ?_ | refine S9 ?_ | refine S10 ?_ | refine S11 ?_ | refine S12 ?_ | refine S13 ?_ | refine S15 ?_ | refine S16 ?_ | refine S19 ?_ | refine S20 ?_ | refine S21 ?_ | refine S22 ?_ | refine S23 ?_ | refine S25 ?_ | refine S26 ?_ | refine S29 ?_ | refine S30 ?_ | refine S32 ?_ | refine S33 ?_ | refine S37 ?_ | refine S38 ?_ | refine S39 ?_ | refine S40 ?_ | refine S41 ?_)
      exact ⟨.inr rfl, .cl rfl⟩
  · have hno : ∀ i, i + 1 < n → lsB n a b i = false := fun i hi => by
      cases hh : lsB n a b i with
      | false => rfl
      | true => exact absurd ⟨i, hi, hh⟩ hex
    rw [tgt_true hno]
    refine SC.go {} tok mixed Try.func105 rfl rfl Try.ntmps105 rfl rfl (by kernel_rfl) ?_
    first | simp only [updS] | simp only [updL, Nat.reduceAdd]
    repeat (first | refine S0 ?_ | refine S1 ?_ | refine S2 ?_ | refine S3 ?_ | refine S4 ?_ | refine S5 ?_ | refine S6 ?_ | refine S7 ?_ | refine S8 ?_ | refine S9 ?_ | refine S10 ?_ | refine S11 ?_ | refine S12 ?_ | refine S13 ?_ | refine S15 ?_ | refine S16 ?_ | refine S19 ?_ | refine S20 ?_ | refine S21 ?_ | refine S22 ?_ | refine S23 ?_ | refine S25 ?_ | refine S26 ?_ | refine S29 ?_ | refine S30 ?_ | refine S32 ?_ | refine S33 ?_ | refine S37 ?_ | refine S38 ?_ | refine S39 ?_ | refine S40 ?_ | refine S41 ?_)
    refine Scall (args := [pli a]) kb ?_
    generalize tabN a.length (gn a) = c at *
    repeat (first | refine S0 ?_ | refine S1 ?_ | refine S2 ?_ | refine S3 ?_ | refine S4 ?_ | refine S5 ?_ | refine S6 ?_ | refine S7 ?_ | refine S8 ?_ | refine S9 ?_ | refine S10 ?_ | refine S11 ?_ | refine S12 ?_ | refine S13 ?_ | refine S15 ?_ | refine S16 ?_ | refine S19 ?_ | refine S20 ?_ | refine S21 ?_ | refine S22 ?_ | refine S23 ?_ | refine S25 ?_ | refine S26 ?_ | refine S29 ?_ | refine S30 ?_ | refine S32 ?_ | refine S33 ?_ | refine S37 ?_ | refine S38 ?_ | refine S39 ?_ | refine S40 ?_ | refine S41 ?_)
    refine CW.loopS (fun j : Nat => j + 1 ≤ n) (fun j => [(0, pli a), (1, pli b), (5, pli c), (6, pint ((j + 1 : Nat) : Int))]) (fun _ _ => True) (fun j => n - j) 0 ⟨by omega, SLx, trivial⟩ ?_
    rintro j t hp' hj _
    first | simp only [updS] | simp only [updL, Nat.reduceAdd]
    by_cases hji : j + 1 < n
    · have hf := hno j hji
      rw [hq j hji, Bool.and_eq_false_iff, decide_eq_false_iff_not, decide_eq_false_iff_not] at hf
      by_cases c1 : b.getD (j + 1) 0 < b.getD (((j + 1 : Nat) : Int) - 1).toNat 0
      · have c2 := hf.resolve_left (fun h => h c1)
        repeat (first | refine S0 ?_ | refine S1 ?_ | refine S2 ?_ | refine S3 ?_ | refine S4 ?_ | refine S5 ?_ | refine S6 ?_ | refine S7 ?_ | refine S8 ?_ | refine S9 ?_ | refine S10 ?_ | refine S11 ?_ | refine S12 ?_ | refine S13 ?_ | refine S15 ?_ | refine S16 ?_ | refine S19 ?_ | refine S20 ?_ | refine S21 ?_ | refine S22 ?_ | refine S23 ?_ | refine S25 ?_ | refine S26 ?_ | refine S29 ?_ | refine S30 ?_ | refine S32 ?_ | refine S33 ?_ | refine S37 ?_ | refine S38 ?_ | refine S39 ?_ | refine S40 ?_ | refine S41 ?_)
        exact ⟨j + 1, by omega, SLx, trivial, by omega⟩
      · repeat (first | refine S0 ?_ | refine S1 ?_ | refine S2 ?_ | refine S3 ?_ | refine S4 ?_ | refine S5 ?_ | refine S6 ?_ | refine S7 ?_ | refine S8 ?_ | refine S9 ?_ | refine S10 ?_ | refine S11 ?_ | refine S12 ?_ | refine S13 ?_ | refine S15 ?_ | refine S16 ?_ | refine S19 ?_ | refine S20 ?_ | refine S21 ?_ | refine S22 ?_ | refine S23 ?_ | refine S25 ?_ | refine S26 ?_ | refine S29 ?_ | refine S30 ?_ | refine S32 ?_ | refine S33 ?_ | refine S37 ?_ | refine S38 ?_ | refine S39 ?_ | refine S40 ?_ | refine S41 ?_)
        exact ⟨j + 1, by omega, SLx, trivial, by omega⟩
    · repeat (first | refine S0 ?_ | refine S1 ?_ | refine S2 ?_ | refine S3 ?_ | refine S4 ?_ | refine S5 ?_ | refine S6 ?_ | refine S7 ?_ | refine S8 ?_ | refine S9 ?_ | refine S10 ?_ | refine S11 ?_ | refine S12 ?_ | refine S13 ?_ | refine S15 ?_ | refine S16 ?_ | refine S19 ?_ | refine S20 ?_ | refine S21 ?_ | refine S22 ?_ | refine S23 ?_ | refine S25 ?_ | refine S26 ?_ | refine S29 ?_ | refine S30 ?_ | refine S32 ?_ | refine S33 ?_ | refine S37 ?_ | refine S38 ?_ | refine S39 ?_ | refine S40 ?_ | refine S41 ?_)
      exact ⟨.inr rfl, .cl rfl⟩
/-- the fault of the factor i -/
def gAt (n : Nat) (l : List (List Int)) (i : Nat) : Int :=
  if permFault (l.getD i []) ≠ 0 then permFault (l.getD i []) else if (l.getD i []).length ≠ n ∨ l.getD i [] = tabN n (fun i => i) ∨ l.getD i [] = rvT n ∨ (0 < i ∧ tgt n (l.getD (i - 1) []) (l.getD i []) = false) then 3 else 0
def gFrom (n : Nat) (l : List (List Int)) : Nat → Nat → Int
  | 0, _ => 0
  | d + 1, i => if gAt n l i ≠ 0 then gAt n l i else gFrom n l d (i + 1)
def gF (n : Int) (l : List (List Int)) : Int := if n < 2 ∨ 6 < n then 1 else if 30 < l.length then 2 else gFrom n.toNat l l.length 0
theorem gFrom_bad {n : Nat} {l : List (List Int)} {d i : Nat} (h : gAt n l i ≠ 0) : gFrom n l (d + 1) i = gAt n l i := by simp only [gFrom, if_pos h]
theorem gFrom_ok {n : Nat} {l : List (List Int)} {d i : Nat} (h : gAt n l i = 0) : gFrom n l (d + 1) i = gFrom n l d (i + 1) := by simp only [gFrom]; rw [if_neg (by rw [h]; simp)]
theorem gAt_ok {n : Nat} {l : List (List Int)} {i : Nat} (h : gAt n l i = 0) : permFault (l.getD i []) = 0 ∧ (l.getD i []).length = n := by
  unfold gAt at h
  split at h
  · rename_i h1; exact absurd h h1
  · rename_i h1
    split at h
    · cases h
    · rename_i h2
      exact ⟨by simpa using h1, Classical.byContradiction fun hc => h2 (.inl hc)⟩
theorem gFrom_all {n : Nat} {l : List (List Int)} : ∀ (d i : Nat), gFrom n l d i = 0 → ∀ j, i ≤ j → j < i + d → gAt n l j = 0
  | 0, i, _, j, h1, h2 => by omega
  | d + 1, i, h, j, h1, h2 => by
    by_cases hz : gAt n l i = 0
    · rw [gFrom_ok hz] at h
      by_cases hj : j = i
      · rw [hj]; exact hz
      · exact gFrom_all d (i + 1) h j (by omega) (by omega)
    · rw [gFrom_bad hz] at h; exact absurd h hz
end Go.Proofs.Ytgjfpmjllpgadaa
