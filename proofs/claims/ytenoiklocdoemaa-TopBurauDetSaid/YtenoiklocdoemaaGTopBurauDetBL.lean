/- Burau matrices in rows of polynomials. Plain facts: nothing of the program is here. -/
import Derived.Test.YtenoiklocdoemaaGTopBurauDetBK
import Derived.Test.YtenoiklocdoemaaGTopBurauDetBG
import Derived.Test.YtenoiklocdoemaaGTopBurauDetAV
import Derived.Test.YtenoiklocdoemaaGTopBurauDetAY
set_option linter.unusedVariables false
set_option linter.unusedSimpArgs false
namespace Go.Proofs.Ytenoiklocdoemaa

/-- a row of a matrix -/
noncomputable def rowP (A : Nat → Nat → LP) (n r : Nat) : List Po := (List.range n).map fun c => poW (A r c)
theorem rowP_len (A : Nat → Nat → LP) (n r : Nat) : (rowP A n r).length = n := by simp [rowP]
theorem rowP_get (A : Nat → Nat → LP) {n r c : Nat} (h : c < n) : (rowP A n r).getD c (0, []) = poW (A r c) := by simp [rowP, List.getD, h]
/-- two coefficients -/
theorem cano_two (l a b : Int) (ha : in64 a) (hb : in64 b) : cano (co (l, [a, b])) = poW (LP.mono a l + LP.mono b (l + 1)) := congrArg cano (funext fun e => by
  rw [LP.add_f, LP.mono_f, LP.mono_f]
  by_cases h1 : e = l
  · subst h1
    rw [if_pos rfl, if_neg (by omega), Int.add_zero, wrp_in ha]
    simpa using co_at (e, [a, b]) 0
  · rw [if_neg h1]
    by_cases h2 : e = l + 1
    · subst h2
      rw [if_pos rfl, Int.zero_add, wrp_in hb]
      simpa using co_at (l, [a, b]) 1
    · rw [if_neg h2]
      by_cases h3 : e < l
      · rw [co_lo (by simpa using h3)]; rfl
      · rw [co_hi (by simp; omega)]; rfl)
theorem rowP_unit {n k : Nat} : (List.replicate n ((0, []) : Po)).set k (poW (LP.mono 1 0)) = rowP unitM n k := by
  apply List.ext_getElem (by simp [rowP])
  intro d g1 g2
  rw [List.getElem_set]
  simp only [rowP, List.getElem_map, List.getElem_range, List.getElem_replicate, unitM]
  by_cases e : k = d
  · rw [if_pos e, if_pos e, LP.one_eq]
  · rw [if_neg e, if_neg e]; exact (cano_zero (fun _ => rfl)).symm
/-- rows before r are turned; of row r the first c of the two columns -/
noncomputable def colM (A : Nat → Nat → LP) (x : Int) (r c : Nat) : Nat → Nat → LP := fun i j => if i < r ∨ (i = r ∧ (1 ≤ c ∧ j + 1 = x.natAbs ∨ 2 ≤ c ∧ j = x.natAbs)) then stepM A x i j else A i j
theorem colM_0 (A : Nat → Nat → LP) (x : Int) : colM A x 0 0 = A := by
  funext i j
  unfold colM
  rw [if_neg (by omega)]
theorem colM_2 (A : Nat → Nat → LP) (x : Int) (r : Nat) : colM A x r 2 = colM A x (r + 1) 0 := by
  funext i j
  unfold colM
  by_cases h1 : i < r
  · rw [if_pos (.inl h1), if_pos (by omega)]
  · by_cases h2 : i = r
    · subst h2
      rw [if_pos (show i < i + 1 ∨ _ by omega)]
      by_cases h3 : j + 1 = x.natAbs ∨ j = x.natAbs
      · rw [if_pos (by omega)]
      · rw [if_neg (by omega)]
        unfold stepM
        rw [if_neg (by omega), if_neg (by omega)]
    · rw [if_neg (by omega), if_neg (by omega)]
theorem colM_n {n i : Nat} (A : Nat → Nat → LP) (x : Int) (h : i < n) : rowP (colM A x n 0) n i = rowP (stepM A x) n i := by
  unfold rowP colM
  refine List.map_congr_left (fun j _ => ?_)
  rw [if_pos (.inl h)]
theorem colM_o {n i r : Nat} (A : Nat → Nat → LP) (x : Int) (c d : Nat) (h : i ≠ r) : rowP (colM A x r c) n i = rowP (colM A x r d) n i := by
  unfold rowP colM
  refine List.map_congr_left (fun j _ => ?_)
  by_cases h1 : i < r
  · rw [if_pos (.inl h1), if_pos (.inl h1)]
  · rw [if_neg (by omega), if_neg (by omega)]
noncomputable def eT (x : Int) (c : Nat) : LP := if c = 0 then e00 x else e01 x
noncomputable def eB (x : Int) (c : Nat) : LP := if c = 0 then e10 x else e11 x
theorem colM_s {n r c : Nat} (A : Nat → Nat → LP) {x : Int} (hx : 1 ≤ x.natAbs) (hc : c < 2) : (rowP (colM A x r c) n r).set (x.natAbs - 1 + c) (poW (A r (x.natAbs - 1) * eT x c + A r x.natAbs * eB x c)) = rowP (colM A x r (c + 1)) n r := by
  apply List.ext_getElem (by simp [rowP])
  intro d g1 g2
  rw [List.getElem_set]
  simp only [rowP, List.getElem_map, List.getElem_range, colM]
  by_cases e : x.natAbs - 1 + c = d
  · rw [if_pos e]
    rcases (show c = 0 ∧ d + 1 = x.natAbs ∨ c = 1 ∧ d = x.natAbs by omega) with ⟨rfl, q⟩ | ⟨rfl, q⟩
    · rw [if_pos (Or.inr ⟨trivial, Or.inl ⟨by omega, q⟩⟩)]
      unfold stepM
      rw [if_pos q]; rfl
    · rw [if_pos (Or.inr ⟨trivial, Or.inr ⟨by omega, q⟩⟩)]
      unfold stepM
      rw [if_neg (by omega), if_pos q]; rfl
  · rw [if_neg e]
    by_cases q : (1 ≤ c ∧ d + 1 = x.natAbs ∨ 2 ≤ c ∧ d = x.natAbs)
    · rw [if_pos (.inr ⟨trivial, q⟩), if_pos (.inr ⟨trivial, by omega⟩)]
    · rw [if_neg (fun hh => hh.elim (by omega) (fun h2 => q h2.2)), if_neg (fun hh => hh.elim (by omega) (fun h2 => by have := h2.2; omega))]
/-- where the row's own two entries are read, nothing is turned yet -/
theorem colM_r {r j : Nat} (A : Nat → Nat → LP) (x : Int) : colM A x r 0 r j = A r j := by
  unfold colM
  rw [if_neg (by omega)]
theorem e_two (x : Int) : Sup 1 (eT x 0) ∧ Sup 1 (eT x 1) ∧ Sup 1 (eB x 0) ∧ Sup 1 (eB x 1) := by
  obtain ⟨h1, h2, h3, h4⟩ := e_sup x
  exact ⟨h1, h2, h3, h4⟩
end Go.Proofs.Ytenoiklocdoemaa

/- Braids: contracts by lists. No condition of its own. -/
set_option linter.unusedVariables false
set_option linter.unusedSimpArgs false
namespace Go.Proofs.Ytenoiklocdoemaa
open Go.RowKit

def letP (n x : Int) : Prop := x ≠ 0 ∧ x < n ∧ -n < x
instance (n x : Int) : Decidable (letP n x) := by unfold letP; exact inferInstance
def bF (n : Int) (w : List Int) : Int := if n < 1 ∨ 6 < n then 1 else if 30 < w.length then 2 else if ∀ x ∈ w, letP n x then 0 else 3
set_option maxHeartbeats 2000000 in
set_option maxRecDepth 100000 in
theorem letter_s (n x : Int) (hn : 1 ≤ n ∧ n ≤ 6) : SC Try.prog 55 [pint n, pint x] (.sc (.bool (decide (letP n x)))) := by
  refine SC.go {} tok mixed Try.func55 rfl rfl Try.ntmps55 rfl rfl (by kernel_rfl) ?_
  first | simp only [updS] | simp only [updL, Nat.reduceAdd]
  by_cases h1 : -n < x
  · by_cases h2 : x < n
    · by_cases h3 : x = 0
      · repeat (first | refine S0 ?_ | refine S1 ?_ | refine S2 ?_ | refine S4 ?_ | refine S5 ?_ | refine S6 ?_ | refine S7 ?_ | refine S8 ?_ | refine S9 ?_ | refine S10 ?_ | refine S11 ?_ | refine S12 ?_ | refine S13 ?_ | refine S15 ?_ | refine S16 ?_ | refine S19 ?_ | refine S20 ?_ | refine S21 ?_ | refine S22 ?_ | refine S23 ?_ | refine S25 ?_ | refine S26 ?_ | refine S28 ?_ | refine S29 ?_ | refine S30 ?_ | refine S31 ?_ | refine S32 ?_ | refine S35 ?_ | refine S36 ?_ | refine S37 ?_ | refine S38 ?_ | refine S40 ?_ | refine S41 ?_ | refine S56 ?_ | refine S73 ?_)
        rw [show decide (letP n x) = false from decide_eq_false (fun e => e.1 h3)]
        have e : (!decide (x = 0)) = false := by simpa using h3
        rw [e]
        exact ⟨.inr rfl, .cl rfl⟩
      · repeat (first | refine S0 ?_ | refine S1 ?_ | refine S2 ?_ | refine S4 ?_ | refine S5 ?_ | refine S6 ?_ | refine S7 ?_ | refine S8 ?_ | refine S9 ?_ | refine S10 ?_ | refine S11 ?_ | refine S12 ?_ | refine S13 ?_ | refine S15 ?_ | refine S16 ?_ | refine S19 ?_ | refine S20 ?_ | refine S21 ?_ | refine S22 ?_ | refine S23 ?_ | refine S25 ?_ | refine S26 ?_ | refine S28 ?_ | refine S29 ?_ | refine S30 ?_ | refine S31 ?_ | refine S32 ?_ | refine S35 ?_ | refine S36 ?_ | refine S37 ?_ | refine S38 ?_ | refine S40 ?_ | refine S41 ?_ | refine S56 ?_ | refine S73 ?_)
        rw [show decide (letP n x) = true from decide_eq_true ⟨h3, h2, h1⟩]
        have e : (!decide (x = 0)) = true := by simpa using h3
        rw [e]
        exact ⟨.inr rfl, .cl rfl⟩
    · repeat (first | refine S0 ?_ | refine S1 ?_ | refine S2 ?_ | refine S4 ?_ | refine S5 ?_ | refine S6 ?_ | refine S7 ?_ | refine S8 ?_ | refine S9 ?_ | refine S10 ?_ | refine S11 ?_ | refine S12 ?_ | refine S13 ?_ | refine S15 ?_ | refine S16 ?_ | refine S19 ?_ | refine S20 ?_ | refine S21 ?_ | refine S22 ?_ | refine S23 ?_ | refine S25 ?_ | refine S26 ?_ | refine S28 ?_ | refine S29 ?_ | refine S30 ?_ | refine S31 ?_ | refine S32 ?_ | refine S35 ?_ | refine S36 ?_ | refine S37 ?_ | refine S38 ?_ | refine S40 ?_ | refine S41 ?_ | refine S56 ?_ | refine S73 ?_)
      rw [show decide (letP n x) = false from decide_eq_false (fun e => h2 e.2.1)]
      exact ⟨.inr rfl, .cl rfl⟩
  · repeat (first | refine S0 ?_ | refine S1 ?_ | refine S2 ?_ | refine S4 ?_ | refine S5 ?_ | refine S6 ?_ | refine S7 ?_ | refine S8 ?_ | refine S9 ?_ | refine S10 ?_ | refine S11 ?_ | refine S12 ?_ | refine S13 ?_ | refine S15 ?_ | refine S16 ?_ | refine S19 ?_ | refine S20 ?_ | refine S21 ?_ | refine S22 ?_ | refine S23 ?_ | refine S25 ?_ | refine S26 ?_ | refine S28 ?_ | refine S29 ?_ | refine S30 ?_ | refine S31 ?_ | refine S32 ?_ | refine S35 ?_ | refine S36 ?_ | refine S37 ?_ | refine S38 ?_ | refine S40 ?_ | refine S41 ?_ | refine S56 ?_ | refine S73 ?_)
    rw [show decide (letP n x) = false from decide_eq_false (fun e => h1 e.2.2)]
    exact ⟨.inr rfl, .cl rfl⟩
set_option maxHeartbeats 2000000 in
set_option maxRecDepth 100000 in
theorem check1_s (n x : Int) (hn : 1 ≤ n ∧ n ≤ 6) : SC Try.prog 54 [pint x, .lptr [pint n]] (.sc (.bool (!decide (letP n x)))) := by
  refine SC.go {} tok mixed Try.func54 rfl rfl Try.ntmps54 rfl rfl (by kernel_rfl) ?_
  first | simp only [updS] | simp only [updL, Nat.reduceAdd]
  have hL := letter_s n x hn
  repeat (first | refine S0 ?_ | refine S1 ?_ | refine S2 ?_ | refine S4 ?_ | refine S5 ?_ | refine S6 ?_ | refine S7 ?_ | refine S8 ?_ | refine S9 ?_ | refine S10 ?_ | refine S11 ?_ | refine S12 ?_ | refine S13 ?_ | refine S15 ?_ | refine S16 ?_ | refine S19 ?_ | refine S20 ?_ | refine S21 ?_ | refine S22 ?_ | refine S23 ?_ | refine S25 ?_ | refine S26 ?_ | refine S28 ?_ | refine S29 ?_ | refine S30 ?_ | refine S31 ?_ | refine S32 ?_ | refine S35 ?_ | refine S36 ?_ | refine S37 ?_ | refine S38 ?_ | refine S40 ?_ | refine S41 ?_ | refine S56 ?_ | refine S73 ?_)
  refine Scall (args := [pint n, pint x]) hL ?_
  repeat (first | refine S0 ?_ | refine S1 ?_ | refine S2 ?_ | refine S4 ?_ | refine S5 ?_ | refine S6 ?_ | refine S7 ?_ | refine S8 ?_ | refine S9 ?_ | refine S10 ?_ | refine S11 ?_ | refine S12 ?_ | refine S13 ?_ | refine S15 ?_ | refine S16 ?_ | refine S19 ?_ | refine S20 ?_ | refine S21 ?_ | refine S22 ?_ | refine S23 ?_ | refine S25 ?_ | refine S26 ?_ | refine S28 ?_ | refine S29 ?_ | refine S30 ?_ | refine S31 ?_ | refine S32 ?_ | refine S35 ?_ | refine S36 ?_ | refine S37 ?_ | refine S38 ?_ | refine S40 ?_ | refine S41 ?_ | refine S56 ?_ | refine S73 ?_)
  exact ⟨.inr rfl, .cl rfl⟩
theorem bF_ok {n : Int} {w : List Int} (h : bF n w = 0) : (1 ≤ n ∧ n ≤ 6) ∧ w.length ≤ 30 ∧ ∀ x ∈ w, letP n x := by
  unfold bF at h
  split at h
  · cases h
  · split at h
    · cases h
    · split at h
      · rename_i h1 h2 h3; exact ⟨by omega, by omega, h3⟩
      · cases h
theorem contains_bad {n : Int} {w : List Int} (hn : 1 ≤ n ∧ n ≤ 6) (hl : w.length ≤ 30) : SC Try.prog 53 [pli w, .clo 54 [.lptr [pint n]]] (.sc (.bool (decide (¬ ∀ x ∈ w, letP n x)))) := by
  by_cases hall : ∀ x ∈ w, letP n x
  · refine containsFunc_x rfl (indexFunc_none (by omega) rfl (fun k hk => ?_)) (by rw [decide_eq_false (by decide)]; exact (decide_eq_false (fun c => c hall)).symm)
    have := check1_s n (w.getD k 0) hn
    rwa [decide_eq_true (hall _ (by rw [getD_lt 0 hk]; exact List.getElem_mem hk))] at this
  · have hex : ∃ k, k < w.length ∧ ¬ letP n (w.getD k 0) := by
      apply Classical.byContradiction; intro hc
      apply hall
      intro x hx
      obtain ⟨i, hi, rfl⟩ := List.getElem_of_mem hx
      apply Classical.byContradiction; intro h3
      exact hc ⟨i, hi, by rw [getD_lt 0 hi]; exact h3⟩
    obtain ⟨m, ⟨hm, hbad⟩, hmin⟩ := exists_least _ hex
    refine containsFunc_x rfl (indexFunc_some (by omega) rfl hm (fun k hk => ?_) ?_) (by rw [decide_eq_true (by omega)]; exact (decide_eq_true hall).symm)
    · have := check1_s n (w.getD k 0) hn
      have hl2 : letP n (w.getD k 0) := by
        apply Classical.byContradiction; intro h3
        have := hmin k ⟨by omega, h3⟩
        omega
      rwa [decide_eq_true hl2] at this
    · have := check1_s n (w.getD m 0) hn
      rwa [decide_eq_false hbad] at this
set_option maxHeartbeats 2000000 in
set_option maxRecDepth 100000 in
theorem bcheck_s (n : Int) (w : List Int) : SC Try.prog 27 [pint n, pli w] (pint (bF n w)) := by
  refine SC.go {} tok mixed Try.func27 rfl rfl Try.ntmps27 rfl rfl (by kernel_rfl) ?_
  first | simp only [updS] | simp only [updL, Nat.reduceAdd]
  by_cases h1 : n < 1
  · have e : bF n w = 1 := by unfold bF; rw [if_pos (.inl h1)]
    rw [e]
    repeat (first | refine S0 ?_ | refine S1 ?_ | refine S2 ?_ | refine S4 ?_ | refine S5 ?_ | refine S6 ?_ | refine S7 ?_ | refine S8 ?_ | refine S9 ?_ | refine S10 ?_ | refine S11 ?_ | refine S12 ?_ | refine S13 ?_ | refine S15 ?_ | refine S16 ?_ | refine S19 ?_ | refine S20 ?_ | refine S21 ?_ | refine S22 ?_ | refine S23 ?_ | refine S25 ?_ | refine S26 ?_ | refine S28 ?_ | refine S29 ?_ | refine S30 ?_ | refine S31 ?_ | refine S32 ?_ | refine S35 ?_ | refine S36 ?_ | refine S37 ?_ | refine S38 ?_ | refine S40 ?_ | refine S41 ?_ | refine S56 ?_ | refine S73 ?_)
    exact ⟨.inr rfl, .cl rfl⟩
  · by_cases h2 : 6 < n
    · have e : bF n w = 1 := by unfold bF; rw [if_pos (.inr h2)]
      rw [e]
      repeat (first | refine S0 ?_ | refine S1 ?_ | refine S2 ?_ | refine S4 ?_ | refine S5 ?_ | refine S6 ?_ | refine S7 ?_ | refine S8 ?_ | refine S9 ?_ | refine S10 ?_ | refine S11 ?_ | refine S12 ?_ | refine S13 ?_ | refine S15 ?_ | refine S16 ?_ | refine S19 ?_ | refine S20 ?_ | refine S21 ?_ | refine S22 ?_ | refine S23 ?_ | refine S25 ?_ | refine S26 ?_ | refine S28 ?_ | refine S29 ?_ | refine S30 ?_ | refine S31 ?_ | refine S32 ?_ | refine S35 ?_ | refine S36 ?_ | refine S37 ?_ | refine S38 ?_ | refine S40 ?_ | refine S41 ?_ | refine S56 ?_ | refine S73 ?_)
      exact ⟨.inr rfl, .cl rfl⟩
    · by_cases h3 : 30 < w.length
      · have e : bF n w = 2 := by unfold bF; rw [if_neg (by omega), if_pos h3]
        rw [e]
        repeat (first | refine S0 ?_ | refine S1 ?_ | refine S2 ?_ | refine S4 ?_ | refine S5 ?_ | refine S6 ?_ | refine S7 ?_ | refine S8 ?_ | refine S9 ?_ | refine S10 ?_ | refine S11 ?_ | refine S12 ?_ | refine S13 ?_ | refine S15 ?_ | refine S16 ?_ | refine S19 ?_ | refine S20 ?_ | refine S21 ?_ | refine S22 ?_ | refine S23 ?_ | refine S25 ?_ | refine S26 ?_ | refine S28 ?_ | refine S29 ?_ | refine S30 ?_ | refine S31 ?_ | refine S32 ?_ | refine S35 ?_ | refine S36 ?_ | refine S37 ?_ | refine S38 ?_ | refine S40 ?_ | refine S41 ?_ | refine S56 ?_ | refine S73 ?_)
        exact ⟨.inr rfl, .cl rfl⟩
      · have hC := contains_bad (n := n) (w := w) ⟨by omega, by omega⟩ (by omega)
        by_cases hall : ∀ x ∈ w, letP n x
        · have e : bF n w = 0 := by unfold bF; rw [if_neg (by omega), if_neg h3, if_pos hall]
          rw [e]
          rw [decide_eq_false (fun c => c hall)] at hC
          repeat (first | refine S0 ?_ | refine S1 ?_ | refine S2 ?_ | refine S4 ?_ | refine S5 ?_ | refine S6 ?_ | refine S7 ?_ | refine S8 ?_ | refine S9 ?_ | refine S10 ?_ | refine S11 ?_ | refine S12 ?_ | refine S13 ?_ | refine S15 ?_ | refine S16 ?_ | refine S19 ?_ | refine S20 ?_ | refine S21 ?_ | refine S22 ?_ | refine S23 ?_ | refine S25 ?_ | refine S26 ?_ | refine S28 ?_ | refine S29 ?_ | refine S30 ?_ | refine S31 ?_ | refine S32 ?_ | refine S35 ?_ | refine S36 ?_ | refine S37 ?_ | refine S38 ?_ | refine S40 ?_ | refine S41 ?_ | refine S56 ?_ | refine S73 ?_)
          refine Scall (args := [pli w, .clo 54 [.lptr [pint n]]]) hC ?_
          repeat (first | refine S0 ?_ | refine S1 ?_ | refine S2 ?_ | refine S4 ?_ | refine S5 ?_ | refine S6 ?_ | refine S7 ?_ | refine S8 ?_ | refine S9 ?_ | refine S10 ?_ | refine S11 ?_ | refine S12 ?_ | refine S13 ?_ | refine S15 ?_ | refine S16 ?_ | refine S19 ?_ | refine S20 ?_ | refine S21 ?_ | refine S22 ?_ | refine S23 ?_ | refine S25 ?_ | refine S26 ?_ | refine S28 ?_ | refine S29 ?_ | refine S30 ?_ | refine S31 ?_ | refine S32 ?_ | refine S35 ?_ | refine S36 ?_ | refine S37 ?_ | refine S38 ?_ | refine S40 ?_ | refine S41 ?_ | refine S56 ?_ | refine S73 ?_)
          exact ⟨.inr rfl, .cl rfl⟩
        · have e : bF n w = 3 := by unfold bF; rw [if_neg (by omega), if_neg h3, if_neg hall]
          rw [e]
          rw [decide_eq_true hall] at hC
          repeat (first | refine S0 ?_ | refine S1 ?_ | refine S2 ?_ | refine S4 ?_ | refine S5 ?_ | refine S6 ?_ | refine S7 ?_ | refine S8 ?_ | refine S9 ?_ | refine S10 ?_ | refine S11 ?_ | refine S12 ?_ | refine S13 ?_ | refine S15 ?_ | refine S16 ?_ | refine S19 ?_ | refine S20 ?_ | refine S21 ?_ | refine S22 ?_ | refine S23 ?_ | refine S25 ?_ | refine S26 ?_ | refine S28 ?_ | refine S29 ?_ | refine S30 ?_ | refine S31 ?_ | refine S32 ?_ | refine S35 ?_ | refine S36 ?_ | refine S37 ?_ | refine S38 ?_ | refine S40 ?_ | refine S41 ?_ | refine S56 ?_ | refine S73 ?_)
          refine Scall (args := [pli w, .clo 54 [.lptr [pint n]]]) hC ?_
          repeat (first | refine S0 ?_ | refine S1 ?_ | refine S2 ?_ | refine S4 ?_ | refine S5 ?_ | refine S6 ?_ | refine S7 ?_ | refine S8 ?_ | refine S9 ?_ | refine S10 ?_ | refine S11 ?_ | refine S12 ?_ | refine S13 ?_ | refine S15 ?_ | refine S16 ?_ | refine S19 ?_ | refine S20 ?_ | refine S21 ?_ | refine S22 ?_ | refine S23 ?_ | refine S25 ?_ | refine S26 ?_ | refine S28 ?_ | refine S29 ?_ | refine S30 ?_ | refine S31 ?_ | refine S32 ?_ | refine S35 ?_ | refine S36 ?_ | refine S37 ?_ | refine S38 ?_ | refine S40 ?_ | refine S41 ?_ | refine S56 ?_ | refine S73 ?_)
          exact ⟨.inr rfl, .cl rfl⟩
end Go.Proofs.Ytenoiklocdoemaa

/- The size of a letter. No condition of its own. -/
set_option linter.unusedVariables false
set_option linter.unusedSimpArgs false
namespace Go.Proofs.Ytenoiklocdoemaa
open Go.RowKit

/-- the size of a letter, and its sign -/
def absI (x : Int) : Int := if x < -x then -x else x
def sgI (x : Int) : Int := if 0 < x then 1 else -1
theorem abs_let {n x : Int} (h : letP n x) (hn : n ≤ 6) : 1 ≤ absI x ∧ absI x ≤ n - 1 ∧ (x = absI x ∨ x = -absI x) ∧ -6 < x ∧ x < 6 := by
  obtain ⟨h1, h2, h3⟩ := h
  unfold absI; split <;> omega
set_option maxHeartbeats 2000000 in
set_option maxRecDepth 100000 in
theorem bindex_s (x : Int) (h : -9000000000000000000 ≤ x ∧ x ≤ 9000000000000000000) : SC Try.prog 56 [pint x] (pint (absI x)) := by
  refine SC.go {} tok mixed Try.func56 rfl rfl Try.ntmps56 rfl rfl (by kernel_rfl) ?_
  first | simp only [updS] | simp only [updL, Nat.reduceAdd]
  repeat (first | refine S0 ?_ | refine S1 ?_ | refine S2 ?_ | refine S7 ?_ | refine S8 ?_ | refine S19 ?_ | refine S20 ?_ | refine S35 ?_ | refine S54 ?_)
  exact ⟨.inr rfl, .cl rfl⟩
end Go.Proofs.Ytenoiklocdoemaa
