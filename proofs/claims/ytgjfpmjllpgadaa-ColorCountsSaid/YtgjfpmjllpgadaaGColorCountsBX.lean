/- coloring.Propagate; the law ColorCounts holds for all words, colours and moduli. No condition of its own. -/
import Derived.Test.YtgjfpmjllpgadaaGColorCountsBW
import Derived.Test.YtgjfpmjllpgadaaGColorCountsBK
set_option linter.unusedVariables false
set_option linter.unusedSimpArgs false
namespace Go.Proofs.Ytgjfpmjllpgadaa
open Go.RowKit

theorem contains_cap {f : FuncId} {cap : List PV} {p : Int → Prop} [DecidablePred p] (hcl : PV.cl.clL cap = true) (h : ∀ x, SC Try.prog f (pint x :: cap) (.sc (.bool (decide (¬ p x))))) (c : List Int) (hl : c.length ≤ 1000000) : SC Try.prog 41 [pli c, .clo f cap] (.sc (.bool (decide (¬ ∀ x ∈ c, p x)))) := by
  by_cases hall : ∀ x ∈ c, p x
  · refine containsFunc_x hcl (indexFunc_none hl hcl (fun k hk => ?_)) (by rw [decide_eq_false (by decide)]; exact (decide_eq_false (fun c => c hall)).symm)
    have := h (c.getD k 0)
    rwa [decide_eq_false (fun c2 => c2 (hall _ (by rw [getD_lt 0 hk]; exact List.getElem_mem hk)))] at this
  · have hex : ∃ k, k < c.length ∧ ¬ p (c.getD k 0) := by
      apply Classical.byContradiction; intro hc
      apply hall
      intro x hx
      obtain ⟨i, hi, rfl⟩ := List.getElem_of_mem hx
      apply Classical.byContradiction; intro h3
      exact hc ⟨i, hi, by rw [getD_lt 0 hi]; exact h3⟩
    obtain ⟨m, ⟨hm, hbad⟩, hmin⟩ := exists_least _ hex
    refine containsFunc_x hcl (indexFunc_some hl hcl hm (fun k hk => ?_) ?_) (by rw [decide_eq_true (by omega)]; exact (decide_eq_true hall).symm)
    · have := h (c.getD k 0)
      have hl2 : p (c.getD k 0) := by
        apply Classical.byContradiction; intro h3
        have := hmin k ⟨by omega, h3⟩
        omega
      rwa [decide_eq_false (fun c2 => c2 hl2)] at this
    · have := h (c.getD m 0)
      rwa [decide_eq_true hbad] at this
def inQ (q x : Int) : Prop := 0 ≤ x ∧ x < q
instance (q : Int) : DecidablePred (inQ q) := fun x => by unfold inQ; exact inferInstance
set_option maxHeartbeats 4000000 in
set_option maxRecDepth 100000 in
theorem prop1_s (q x : Int) : SC Try.prog 85 [pint x, .lptr [pint q]] (.sc (.bool (decide (¬ inQ q x)))) := by
  refine SC.go {} tok mixed Try.func85 rfl rfl Try.ntmps85 rfl rfl (by kernel_rfl) ?_
  first | simp only [updS] | simp only [updL, Nat.reduceAdd]
  by_cases h : x < 0
  · rw [show decide (¬ inQ q x) = true from decide_eq_true (fun e => by unfold inQ at e; omega)]
    repeat (first | refine S0 ?_ | refine S1 ?_ | refine S2 ?_ | refine S4 ?_ | refine S5 ?_ | refine S7 ?_ | refine S8 ?_ | refine S9 ?_ | refine S11 ?_ | refine S12 ?_ | refine S15 ?_ | refine S16 ?_ | refine S19 ?_ | refine S20 ?_ | refine S21 ?_ | refine S23 ?_ | refine S26 ?_ | refine S29 ?_ | refine S30 ?_ | refine S32 ?_ | refine S37 ?_ | refine S38 ?_ | refine S40 ?_ | refine S41 ?_ | refine S56 ?_ | refine S73 ?_)
    rw [decide_eq_true h]
    exact ⟨.inr rfl, .cl rfl⟩
  · rw [show decide (¬ inQ q x) = decide (q ≤ x) from decide_eq_decide.2 (by unfold inQ; omega)]
    repeat (first | refine S0 ?_ | refine S1 ?_ | refine S2 ?_ | refine S4 ?_ | refine S5 ?_ | refine S7 ?_ | refine S8 ?_ | refine S9 ?_ | refine S11 ?_ | refine S12 ?_ | refine S15 ?_ | refine S16 ?_ | refine S19 ?_ | refine S20 ?_ | refine S21 ?_ | refine S23 ?_ | refine S26 ?_ | refine S29 ?_ | refine S30 ?_ | refine S32 ?_ | refine S37 ?_ | refine S38 ?_ | refine S40 ?_ | refine S41 ?_ | refine S56 ?_ | refine S73 ?_)
    exact ⟨.inr rfl, .cl rfl⟩
set_option maxHeartbeats 4000000 in
set_option maxRecDepth 100000 in
theorem ccol1_s (q x : Int) : SC Try.prog 42 [pint x, .lptr [pint q]] (.sc (.bool (decide (¬ inQ q x)))) := by
  refine SC.go {} tok mixed Try.func42 rfl rfl Try.ntmps42 rfl rfl (by kernel_rfl) ?_
  first | simp only [updS] | simp only [updL, Nat.reduceAdd]
  by_cases h : x < 0
  · rw [show decide (¬ inQ q x) = true from decide_eq_true (fun e => by unfold inQ at e; omega)]
    repeat (first | refine S0 ?_ | refine S1 ?_ | refine S2 ?_ | refine S4 ?_ | refine S5 ?_ | refine S7 ?_ | refine S8 ?_ | refine S9 ?_ | refine S11 ?_ | refine S12 ?_ | refine S15 ?_ | refine S16 ?_ | refine S19 ?_ | refine S20 ?_ | refine S21 ?_ | refine S23 ?_ | refine S26 ?_ | refine S29 ?_ | refine S30 ?_ | refine S32 ?_ | refine S37 ?_ | refine S38 ?_ | refine S40 ?_ | refine S41 ?_ | refine S56 ?_ | refine S73 ?_)
    rw [decide_eq_true h]
    exact ⟨.inr rfl, .cl rfl⟩
  · rw [show decide (¬ inQ q x) = decide (q ≤ x) from decide_eq_decide.2 (by unfold inQ; omega)]
    repeat (first | refine S0 ?_ | refine S1 ?_ | refine S2 ?_ | refine S4 ?_ | refine S5 ?_ | refine S7 ?_ | refine S8 ?_ | refine S9 ?_ | refine S11 ?_ | refine S12 ?_ | refine S15 ?_ | refine S16 ?_ | refine S19 ?_ | refine S20 ?_ | refine S21 ?_ | refine S23 ?_ | refine S26 ?_ | refine S29 ?_ | refine S30 ?_ | refine S32 ?_ | refine S37 ?_ | refine S38 ?_ | refine S40 ?_ | refine S41 ?_ | refine S56 ?_ | refine S73 ?_)
    exact ⟨.inr rfl, .cl rfl⟩
/-- what is wrong with the colours -/
def prE (n : Nat) (q : Int) (c : List Int) : Int := if c.length ≠ n then 3 else if ∀ x ∈ c, inQ q x then 0 else 1
def prL (n : Nat) (q : Int) (w c : List Int) : List Int := if prE n q c = 0 then colW q w c else []
theorem prE_ok {n : Nat} {q : Int} {c : List Int} (h : prE n q c = 0) : Cols n q c := by
  unfold prE at h
  split at h
  · cases h
  · split at h
    · rename_i h1 h2
      refine ⟨by omega, fun i hi => ?_⟩
      have := h2 (c.getD i 0) (by rw [getD_lt 0 (show i < c.length by omega)]; exact List.getElem_mem _)
      exact this
    · cases h
set_option maxHeartbeats 16000000 in
set_option maxRecDepth 100000 in
theorem prop_bad {n q : Int} {w c : List Int} (h0 : bF n w ≠ 0) : SC Try.prog 40 [pint n, pli w, pli c, pint q] (.tup [pli [], pint (bF n w)]) := by
  have kc := bcheck_s n w
  refine SC.go {} tok mixed Try.func40 rfl rfl Try.ntmps40 rfl rfl (by kernel_rfl) ?_
  first | simp only [updS] | simp only [updL, Nat.reduceAdd]
  repeat (first | refine S0 ?_ | refine S1 ?_ | refine S2 ?_ | refine S4 ?_ | refine S5 ?_ | refine S7 ?_ | refine S8 ?_ | refine S9 ?_ | refine S11 ?_ | refine S12 ?_ | refine S15 ?_ | refine S16 ?_ | refine S19 ?_ | refine S20 ?_ | refine S21 ?_ | refine S23 ?_ | refine S26 ?_ | refine S29 ?_ | refine S30 ?_ | refine S32 ?_ | refine S37 ?_ | refine S38 ?_ | refine S40 ?_ | refine S41 ?_ | refine S56 ?_ | refine S73 ?_)
  refine Scall (args := [pint n, pli w]) kc ?_
  repeat (first | refine S0 ?_ | refine S1 ?_ | refine S2 ?_ | refine S4 ?_ | refine S5 ?_ | refine S7 ?_ | refine S8 ?_ | refine S9 ?_ | refine S11 ?_ | refine S12 ?_ | refine S15 ?_ | refine S16 ?_ | refine S19 ?_ | refine S20 ?_ | refine S21 ?_ | refine S23 ?_ | refine S26 ?_ | refine S29 ?_ | refine S30 ?_ | refine S32 ?_ | refine S37 ?_ | refine S38 ?_ | refine S40 ?_ | refine S41 ?_ | refine S56 ?_ | refine S73 ?_)
  exact ⟨.inr rfl, Fz.pair Fz.nil (.cl rfl)⟩
set_option maxHeartbeats 16000000 in
set_option maxRecDepth 100000 in
theorem prop_arg {n q : Int} {w c : List Int} (h0 : bF n w = 0) (hq : q < 1 ∨ 13 < q) : SC Try.prog 40 [pint n, pli w, pli c, pint q] (.tup [pli [], pint 1]) := by
  have kc := bcheck_s n w
  rw [h0] at kc
  refine SC.go {} tok mixed Try.func40 rfl rfl Try.ntmps40 rfl rfl (by kernel_rfl) ?_
  first | simp only [updS] | simp only [updL, Nat.reduceAdd]
  repeat (first | refine S0 ?_ | refine S1 ?_ | refine S2 ?_ | refine S4 ?_ | refine S5 ?_ | refine S7 ?_ | refine S8 ?_ | refine S9 ?_ | refine S11 ?_ | refine S12 ?_ | refine S15 ?_ | refine S16 ?_ | refine S19 ?_ | refine S20 ?_ | refine S21 ?_ | refine S23 ?_ | refine S26 ?_ | refine S29 ?_ | refine S30 ?_ | refine S32 ?_ | refine S37 ?_ | refine S38 ?_ | refine S40 ?_ | refine S41 ?_ | refine S56 ?_ | refine S73 ?_)
  refine Scall (args := [pint n, pli w]) kc ?_
  by_cases h1 : q < 1
  · repeat (first | refine S0 ?_ | refine S1 ?_ | refine S2 ?_ | refine S4 ?_ | refine S5 ?_ | refine S7 ?_ | refine S8 ?_ | refine S9 ?_ | refine S11 ?_ | refine S12 ?_ | refine S15 ?_ | refine S16 ?_ | refine S19 ?_ | refine S20 ?_ | refine S21 ?_ | refine S23 ?_ | refine S26 ?_ | refine S29 ?_ | refine S30 ?_ | refine S32 ?_ | refine S37 ?_ | refine S38 ?_ | refine S40 ?_ | refine S41 ?_ | refine S56 ?_ | refine S73 ?_)
    exact ⟨.inr rfl, Fz.pair Fz.nil (.cl rfl)⟩
  · repeat (first | refine S0 ?_ | refine S1 ?_ | refine S2 ?_ | refine S4 ?_ | refine S5 ?_ | refine S7 ?_ | refine S8 ?_ | refine S9 ?_ | refine S11 ?_ | refine S12 ?_ | refine S15 ?_ | refine S16 ?_ | refine S19 ?_ | refine S20 ?_ | refine S21 ?_ | refine S23 ?_ | refine S26 ?_ | refine S29 ?_ | refine S30 ?_ | refine S32 ?_ | refine S37 ?_ | refine S38 ?_ | refine S40 ?_ | refine S41 ?_ | refine S56 ?_ | refine S73 ?_)
    exact ⟨.inr rfl, Fz.pair Fz.nil (.cl rfl)⟩
set_option maxHeartbeats 16000000 in
set_option maxRecDepth 100000 in
theorem prop_ok {n q : Nat} {w c : List Int} (hn : 1 ≤ n) (hw : Wd n w) (h0 : bF n w = 0) (hq : 1 ≤ q ∧ q ≤ 13) : SC Try.prog 40 [pint n, pli w, pli c, pint q] (.tup [pli (prL n q w c), pint (prE n q c)]) := by
  have kc := bcheck_s n w
  rw [h0] at kc
  have hqi : (1 : Int) ≤ q ∧ (q : Int) ≤ 13 := by omega
  have hn6 := hw.n9
  have hwl := hw.len
  have hwo := hw.wok
  refine SC.go {} tok mixed Try.func40 rfl rfl Try.ntmps40 rfl rfl (by kernel_rfl) ?_
  first | simp only [updS] | simp only [updL, Nat.reduceAdd]
  by_cases hl : c.length = n
  · have kk := contains_cap (cap := [.lptr [pint q]]) rfl (prop1_s q) c (by omega)
    by_cases hin : ∀ x ∈ c, inQ q x
    · have he : prE n q c = 0 := by unfold prE; rw [if_neg (by omega), if_pos hin]
      have hL : prL n q w c = colW q w c := if_pos he
      have hC := prE_ok he
      have hpl : (colW q w c).length = n := by rw [colW_len, hl]
      have kp := (propagate_o hn6 hwl hwo hqi hC).sc (by rw [ints_length, hpl]; omega)
      rw [show PV.lst false 1 n (ints (colW q w c)) = pli (colW q w c) by unfold pli; rw [hpl]] at kp
      have kcl := clip_s (colW q w c)
      rw [he, hL]
      rw [show decide (¬ ∀ x ∈ c, inQ q x) = false from decide_eq_false (fun h => h hin)] at kk
      generalize colW q w c = L at *
      repeat (first | refine S0 ?_ | refine S1 ?_ | refine S2 ?_ | refine S4 ?_ | refine S5 ?_ | refine S7 ?_ | refine S8 ?_ | refine S9 ?_ | refine S11 ?_ | refine S12 ?_ | refine S15 ?_ | refine S16 ?_ | refine S19 ?_ | refine S20 ?_ | refine S21 ?_ | refine S23 ?_ | refine S26 ?_ | refine S29 ?_ | refine S30 ?_ | refine S32 ?_ | refine S37 ?_ | refine S38 ?_ | refine S40 ?_ | refine S41 ?_ | refine S56 ?_ | refine S73 ?_)
      refine Scall (args := [pint n, pli w]) kc ?_
      repeat (first | refine S0 ?_ | refine S1 ?_ | refine S2 ?_ | refine S4 ?_ | refine S5 ?_ | refine S7 ?_ | refine S8 ?_ | refine S9 ?_ | refine S11 ?_ | refine S12 ?_ | refine S15 ?_ | refine S16 ?_ | refine S19 ?_ | refine S20 ?_ | refine S21 ?_ | refine S23 ?_ | refine S26 ?_ | refine S29 ?_ | refine S30 ?_ | refine S32 ?_ | refine S37 ?_ | refine S38 ?_ | refine S40 ?_ | refine S41 ?_ | refine S56 ?_ | refine S73 ?_)
      refine Scall (args := [pli c, .clo 85 [.lptr [pint q]]]) kk ?_
      repeat (first | refine S0 ?_ | refine S1 ?_ | refine S2 ?_ | refine S4 ?_ | refine S5 ?_ | refine S7 ?_ | refine S8 ?_ | refine S9 ?_ | refine S11 ?_ | refine S12 ?_ | refine S15 ?_ | refine S16 ?_ | refine S19 ?_ | refine S20 ?_ | refine S21 ?_ | refine S23 ?_ | refine S26 ?_ | refine S29 ?_ | refine S30 ?_ | refine S32 ?_ | refine S37 ?_ | refine S38 ?_ | refine S40 ?_ | refine S41 ?_ | refine S56 ?_ | refine S73 ?_)
      refine Scall (args := [pli w, pli c, pint q]) kp ?_
      repeat (first | refine S0 ?_ | refine S1 ?_ | refine S2 ?_ | refine S4 ?_ | refine S5 ?_ | refine S7 ?_ | refine S8 ?_ | refine S9 ?_ | refine S11 ?_ | refine S12 ?_ | refine S15 ?_ | refine S16 ?_ | refine S19 ?_ | refine S20 ?_ | refine S21 ?_ | refine S23 ?_ | refine S26 ?_ | refine S29 ?_ | refine S30 ?_ | refine S32 ?_ | refine S37 ?_ | refine S38 ?_ | refine S40 ?_ | refine S41 ?_ | refine S56 ?_ | refine S73 ?_)
      refine Scall (args := [pli L]) kcl ?_
      repeat (first | refine S0 ?_ | refine S1 ?_ | refine S2 ?_ | refine S4 ?_ | refine S5 ?_ | refine S7 ?_ | refine S8 ?_ | refine S9 ?_ | refine S11 ?_ | refine S12 ?_ | refine S15 ?_ | refine S16 ?_ | refine S19 ?_ | refine S20 ?_ | refine S21 ?_ | refine S23 ?_ | refine S26 ?_ | refine S29 ?_ | refine S30 ?_ | refine S32 ?_ | refine S37 ?_ | refine S38 ?_ | refine S40 ?_ | refine S41 ?_ | refine S56 ?_ | refine S73 ?_)
      exact ⟨.inr rfl, Fz.pair pli_nrm (.cl rfl)⟩
    · have he : prE n q c = 1 := by unfold prE; rw [if_neg (by omega), if_neg hin]
      have hL : prL n q w c = [] := if_neg (by omega)
      rw [he, hL]
      rw [show decide (¬ ∀ x ∈ c, inQ q x) = true from decide_eq_true hin] at kk
      repeat (first | refine S0 ?_ | refine S1 ?_ | refine S2 ?_ | refine S4 ?_ | refine S5 ?_ | refine S7 ?_ | refine S8 ?_ | refine S9 ?_ | refine S11 ?_ | refine S12 ?_ | refine S15 ?_ | refine S16 ?_ | refine S19 ?_ | refine S20 ?_ | refine S21 ?_ | refine S23 ?_ | refine S26 ?_ | refine S29 ?_ | refine S30 ?_ | refine S32 ?_ | refine S37 ?_ | refine S38 ?_ | refine S40 ?_ | refine S41 ?_ | refine S56 ?_ | refine S73 ?_)
      refine Scall (args := [pint n, pli w]) kc ?_
      repeat (first | refine S0 ?_ | refine S1 ?_ | refine S2 ?_ | refine S4 ?_ | refine S5 ?_ | refine S7 ?_ | refine S8 ?_ | refine S9 ?_ | refine S11 ?_ | refine S12 ?_ | refine S15 ?_ | refine S16 ?_ | refine S19 ?_ | refine S20 ?_ | refine S21 ?_ | refine S23 ?_ | refine S26 ?_ | refine S29 ?_ | refine S30 ?_ | refine S32 ?_ | refine S37 ?_ | refine S38 ?_ | refine S40 ?_ | refine S41 ?_ | refine S56 ?_ | refine S73 ?_)
      refine Scall (args := [pli c, .clo 85 [.lptr [pint q]]]) kk ?_
      repeat (first | refine S0 ?_ | refine S1 ?_ | refine S2 ?_ | refine S4 ?_ | refine S5 ?_ | refine S7 ?_ | refine S8 ?_ | refine S9 ?_ | refine S11 ?_ | refine S12 ?_ | refine S15 ?_ | refine S16 ?_ | refine S19 ?_ | refine S20 ?_ | refine S21 ?_ | refine S23 ?_ | refine S26 ?_ | refine S29 ?_ | refine S30 ?_ | refine S32 ?_ | refine S37 ?_ | refine S38 ?_ | refine S40 ?_ | refine S41 ?_ | refine S56 ?_ | refine S73 ?_)
      exact ⟨.inr rfl, Fz.pair Fz.nil (.cl rfl)⟩
  · have he : prE n q c = 3 := by unfold prE; rw [if_pos hl]
    have hL : prL n q w c = [] := if_neg (by omega)
    rw [he, hL]
    repeat (first | refine S0 ?_ | refine S1 ?_ | refine S2 ?_ | refine S4 ?_ | refine S5 ?_ | refine S7 ?_ | refine S8 ?_ | refine S9 ?_ | refine S11 ?_ | refine S12 ?_ | refine S15 ?_ | refine S16 ?_ | refine S19 ?_ | refine S20 ?_ | refine S21 ?_ | refine S23 ?_ | refine S26 ?_ | refine S29 ?_ | refine S30 ?_ | refine S32 ?_ | refine S37 ?_ | refine S38 ?_ | refine S40 ?_ | refine S41 ?_ | refine S56 ?_ | refine S73 ?_)
    refine Scall (args := [pint n, pli w]) kc ?_
    repeat (first | refine S0 ?_ | refine S1 ?_ | refine S2 ?_ | refine S4 ?_ | refine S5 ?_ | refine S7 ?_ | refine S8 ?_ | refine S9 ?_ | refine S11 ?_ | refine S12 ?_ | refine S15 ?_ | refine S16 ?_ | refine S19 ?_ | refine S20 ?_ | refine S21 ?_ | refine S23 ?_ | refine S26 ?_ | refine S29 ?_ | refine S30 ?_ | refine S32 ?_ | refine S37 ?_ | refine S38 ?_ | refine S40 ?_ | refine S41 ?_ | refine S56 ?_ | refine S73 ?_)
    exact ⟨.inr rfl, Fz.pair Fz.nil (.cl rfl)⟩
end Go.Proofs.Ytgjfpmjllpgadaa
