/- The size of a letter. No condition of its own. -/
import Derived.Test.YtgjfpmjllpgadaaGGarsideEqualsAW
import Derived.Test.YtgjfpmjllpgadaaGGarsideEqualsAB
import Derived.Test.YtgjfpmjllpgadaaGGarsideEqualsAC
set_option linter.unusedVariables false
set_option linter.unusedSimpArgs false
namespace Go.Proofs.Ytgjfpmjllpgadaa
open Go.RowKit

/-- the size of a letter, and its sign -/
def absI (x : Int) : Int := if x < -x then -x else x
def sgI (x : Int) : Int := if 0 < x then 1 else -1
theorem abs_let {n x : Int} (h : letP n x) (hn : n ≤ 6) : 1 ≤ absI x ∧ absI x ≤ n - 1 ∧ (x = absI x ∨ x = -absI x) ∧ -6 < x ∧ x < 6 := by
  obtain ⟨h1, h2, h3⟩ := h
  unfold absI; split <;> omega
theorem neg_i (x : Int) (h : -9000000000000000000 ≤ x ∧ x ≤ 9000000000000000000) : in64 (-x) := by unfold in64; omega
set_option maxHeartbeats 2000000 in
set_option maxRecDepth 100000 in
theorem bindex_s (x : Int) (h : -9000000000000000000 ≤ x ∧ x ≤ 9000000000000000000) : SC Try.prog 67 [pint x] (pint (absI x)) := by
  refine SC.go {} tok mixed Try.func67 rfl rfl Try.ntmps67 rfl rfl (by kernel_rfl) ?_
  first | simp only [updS] | simp only [updL, Nat.reduceAdd]
  repeat (first | refine S0 ?_ | refine S1 ?_ | refine S2 ?_ | refine S7 ?_ | refine S8 ?_ | refine S19 ?_ | refine S20 ?_ | refine S35 ?_ | refine S54 ?_)
  exact ⟨.inr rfl, .cl rfl⟩
set_option maxHeartbeats 2000000 in
set_option maxRecDepth 100000 in
theorem rindex_s (x : Int) (h : -9000000000000000000 ≤ x ∧ x ≤ 9000000000000000000) : SC Try.prog 73 [pint x] (pint (absI x)) := by
  refine SC.go {} tok mixed Try.func73 rfl rfl Try.ntmps73 rfl rfl (by kernel_rfl) ?_
  first | simp only [updS] | simp only [updL, Nat.reduceAdd]
  repeat (first | refine S0 ?_ | refine S1 ?_ | refine S2 ?_ | refine S7 ?_ | refine S8 ?_ | refine S19 ?_ | refine S20 ?_ | refine S35 ?_ | refine S54 ?_)
  exact ⟨.inr rfl, .cl rfl⟩
end Go.Proofs.Ytgjfpmjllpgadaa

/- Braids: the permutation, the exponent sum, the inverse. No condition of its own. -/
set_option linter.unusedVariables false
set_option linter.unusedSimpArgs false
namespace Go.Proofs.Ytgjfpmjllpgadaa
open Go.RowKit

/-- what a letter of size i does to a place -/
def tau (i j : Nat) : Nat := if j + 1 = i then i else if j = i then i - 1 else j
theorem tau_lt {n i j : Nat} (hi : 1 ≤ i ∧ i < n) (hj : j < n) : tau i j < n := by unfold tau; split <;> (try split) <;> omega
theorem tau_tau {n i j : Nat} (hi : 1 ≤ i ∧ i < n) : tau i (tau i j) = j := by unfold tau; split <;> (try split) <;> (try split) <;> (try split) <;> omega
def ltr (x : Int) : Nat := (absI x).toNat
/-- where a strand is after the letters; which strand is at a place -/
def eAt (w : List Int) : Nat → Nat → Nat
  | 0, s => s
  | k + 1, s => tau (ltr (w.getD k 0)) (eAt w k s)
def fAt (w : List Int) : Nat → Nat → Nat
  | 0, j => j
  | k + 1, j => fAt w k (tau (ltr (w.getD k 0)) j)
structure Wd (n : Nat) (w : List Int) : Prop where
  n9 : n ≤ 6
  len : w.length ≤ 30
  lt : ∀ k, k < w.length → letP n (w.getD k 0)
theorem Wd.of {n : Int} {w : List Int} (h : bF n w = 0) : ∃ m : Nat, n = (m : Int) ∧ 1 ≤ m ∧ Wd m w := by
  obtain ⟨h1, h2, h3⟩ := bF_ok h
  refine ⟨n.toNat, by omega, by omega, by omega, h2, fun k hk => ?_⟩
  rw [show ((n.toNat : Nat) : Int) = n by omega]
  exact h3 _ (by rw [getD_lt 0 hk]; exact List.getElem_mem hk)
theorem Wd.ltr {n : Nat} {w : List Int} (h : Wd n w) {k : Nat} (hk : k < w.length) : 1 ≤ ltr (w.getD k 0) ∧ ltr (w.getD k 0) < n ∧ ((ltr (w.getD k 0) : Nat) : Int) = absI (w.getD k 0) := by
  have := abs_let (h.lt k hk) (by have := h.n9; omega)
  unfold Go.Proofs.Ytgjfpmjllpgadaa.ltr; omega
theorem Wd.e_lt {n : Nat} {w : List Int} (h : Wd n w) : ∀ k, k ≤ w.length → ∀ s, s < n → eAt w k s < n
  | 0, _, s, hs => hs
  | k + 1, hk, s, hs => tau_lt ⟨(h.ltr (k := k) hk).1, (h.ltr (k := k) hk).2.1⟩ (h.e_lt k (by omega) s hs)
theorem Wd.fe {n : Nat} {w : List Int} (h : Wd n w) : ∀ k, k ≤ w.length → ∀ s, fAt w k (eAt w k s) = s
  | 0, _, s => rfl
  | k + 1, hk, s => by
    simp only [fAt, eAt]
    rw [tau_tau (n := n) ⟨(h.ltr (k := k) hk).1, (h.ltr (k := k) hk).2.1⟩]
    exact h.fe k (by omega) s
/-- two places change their strands -/
theorem swap_tab {n i : Nat} {F : Nat → Nat} (hi : 1 ≤ i ∧ i < n) : ((tabN n F).set (i - 1) ((tabN n F).getD i 0)).set i ((tabN n F).getD (i - 1) 0) = tabN n (fun j => F (tau i j)) := by
  rw [tabN_get hi.2, tabN_get (F := F) (by omega : i - 1 < n)]
  apply List.ext_getElem
  · simp
  · intro j h1 h2
    simp only [tab_len] at h2
    rw [List.getElem_set, List.getElem_set]
    unfold tau
    by_cases e1 : i = j
    · subst e1
      rw [if_pos rfl]
      simp [tabN, show ¬ (i + 1 = i) by omega]
    · rw [if_neg e1]
      by_cases e2 : i - 1 = j
      · rw [if_pos e2]
        simp [tabN, show j + 1 = i by omega]
      · rw [if_neg e2]
        simp [tabN, show ¬ (j + 1 = i) by omega, show ¬ (j = i) by omega]
end Go.Proofs.Ytgjfpmjllpgadaa

/- Words of permutations: any descent may come first, any crossing of neighbours may come last; the half twist. Plain facts: nothing of the program is here. -/
set_option linter.unusedVariables false
set_option linter.unusedSimpArgs false
namespace Go.Proofs.Ytgjfpmjllpgadaa

theorem tau_inj {n i a b : Nat} (hi : 1 ≤ i ∧ i < n) (h : tau i a = tau i b) : a = b := by
  rw [← tau_tau (n := n) (j := a) hi, h, tau_tau (n := n) hi]
theorem tau_far {i j k : Nat} (h : i + 2 ≤ j) : tau i (tau j k) = tau j (tau i k) := by unfold tau; repeat' split <;> try omega
theorem tau_braid {i k : Nat} (hi : 1 ≤ i) : tau i (tau (i + 1) (tau i k)) = tau (i + 1) (tau i (tau (i + 1) k)) := by unfold tau; repeat' split <;> try omega
theorem tau_at {i : Nat} : tau (i + 1) i = i + 1 := by unfold tau; rw [if_pos rfl]
theorem tau_at1 {i : Nat} : tau (i + 1) (i + 1) = i := by unfold tau; rw [if_neg (by omega), if_pos rfl]; rfl
theorem tau_ot {i k : Nat} (h1 : k ≠ i) (h2 : k ≠ i + 1) : tau (i + 1) k = k := by unfold tau; rw [if_neg (by omega), if_neg (by omega)]
/-- places are changed -/
def psw (f : Nat → Nat) (i : Nat) : Nat → Nat := fun j => f (tau (i + 1) j)
/-- values are changed -/
def vsw (f : Nat → Nat) (v : Nat) : Nat → Nat := fun j => tau (v + 1) (f j)
theorem psw_isP {f : Nat → Nat} {n i : Nat} (h : IsP f n) (hi : i + 1 < n) : IsP (psw f i) n :=
  ⟨fun j hj => h.lt _ (tau_lt (by omega) hj), fun a b ha hb e => tau_inj (n := n) (by omega) (h.inj _ _ (tau_lt (by omega) ha) (tau_lt (by omega) hb) e)⟩
theorem vsw_isP {f : Nat → Nat} {n v : Nat} (h : IsP f n) (hv : v + 1 < n) : IsP (vsw f v) n :=
  ⟨fun j hj => tau_lt (by omega) (h.lt j hj), fun a b ha hb e => h.inj a b ha hb (tau_inj (n := n) (by omega) e)⟩
theorem psw_at {f : Nat → Nat} {i : Nat} : psw f i i = f (i + 1) := by unfold psw; rw [tau_at]
theorem psw_at1 {f : Nat → Nat} {i : Nat} : psw f i (i + 1) = f i := by unfold psw; rw [tau_at1]
theorem psw_ot {f : Nat → Nat} {i k : Nat} (h1 : k ≠ i) (h2 : k ≠ i + 1) : psw f i k = f k := by unfold psw; rw [tau_ot h1 h2]
theorem psw_far {f : Nat → Nat} {i j : Nat} (h : i + 2 ≤ j) : psw (psw f i) j = psw (psw f j) i := by
  funext k; unfold psw; rw [tau_far (by omega)]
theorem psw_braid {f : Nat → Nat} {i : Nat} : psw (psw (psw f i) (i + 1)) i = psw (psw (psw f (i + 1)) i) (i + 1) := by
  funext k; unfold psw; rw [tau_braid (by omega)]
theorem vsw_psw (f : Nat → Nat) (v i : Nat) : psw (vsw f v) i = vsw (psw f i) v := rfl
/-- the word of a permutation -/
def spw (n : Nat) (f : Nat → Nat) : List Int := spell (tabN n f)
theorem tab_swp {n i : Nat} {f : Nat → Nat} (hi : i + 1 < n) : swp (tabN n f) i = tabN n (psw f i) := swap_tab (F := f) (i := i + 1) ⟨by omega, hi⟩
theorem tab_getI {n i : Nat} {f : Nat → Nat} (hi : i < n) : (tabN n f).getD i 0 = (f i : Int) := tabN_get hi
theorem isP_ent {n : Nat} {f : Nat → Nat} (h : IsP f n) (hn : n ≤ 6) : Ent (tabN n f) := by
  refine ⟨by simp; omega, fun x hx => ?_⟩
  unfold tabN at hx
  obtain ⟨i, hi, rfl⟩ := List.mem_map.1 hx
  have := h.lt i (List.mem_range.1 hi)
  omega
theorem desc_tab {n i : Nat} {f : Nat → Nat} (h : desc (tabN n f) = some i) : i + 1 < n ∧ f (i + 1) < f i := by
  obtain ⟨h1, h2⟩ := desc_lt h
  simp only [tab_len] at h1
  rw [tab_getI h1, tab_getI (by omega)] at h2
  omega
theorem desc_ex {n i : Nat} {f : Nat → Nat} (hi : i + 1 < n) (h : f (i + 1) < f i) : ∃ j, desc (tabN n f) = some j ∧ j ≤ i := by
  obtain ⟨j, ⟨hj, hl⟩, hmin⟩ := exists_least (fun j => j + 1 < n ∧ f (j + 1) < f j) ⟨i, hi, h⟩
  refine ⟨j, desc_some (by simpa using hj) (by rw [tab_getI hj, tab_getI (by omega)]; omega) (fun k hk hlt => ?_), ?_⟩
  · rw [tab_getI (by omega), tab_getI (by omega)] at hlt
    have := hmin k ⟨by omega, by omega⟩
    omega
  · have := hmin i ⟨hi, h⟩; omega
theorem inc_id {n : Nat} {f : Nat → Nat} (h : IsP f n) (hd : ∀ i, i + 1 < n → ¬ f (i + 1) < f i) : ∀ i, i < n → f i = i := by
  have hs : ∀ i, i + 1 < n → f i < f (i + 1) := fun i hi => by
    have h1 := hd i hi
    have h2 : f i ≠ f (i + 1) := fun e => by have := h.inj i (i + 1) (by omega) hi e; omega
    omega
  have lo : ∀ i, i < n → i ≤ f i := by
    intro i
    induction i with
    | zero => intro _; omega
    | succ i ih => intro hi; have := ih (by omega); have := hs i hi; omega
  have hi : ∀ d i, i + d + 1 = n → f i + d < n := by
    intro d
    induction d with
    | zero => intro i hi; exact h.lt i (by omega)
    | succ d ih => intro i hi; have := ih (i + 1) (by omega); have := hs i (by omega); omega
  intro i hi2
  have h1 := lo i hi2
  have h2 := hi (n - 1 - i) i (by omega)
  omega
theorem tab_id {n : Nat} {f : Nat → Nat} (h : ∀ i, i < n → f i = i) : tabN n f = tabN n id := tab_ext (fun i hi => h i hi)
theorem desc_id (n : Nat) : desc (tabN n id) = none := desc_none (fun j hj => by
  simp only [tab_len] at hj
  rw [tab_getI hj, tab_getI (by omega)]
  simp only [id]; omega)
theorem id_isP (n : Nat) : IsP id n := ⟨fun i hi => hi, fun a b _ _ e => e⟩
theorem spw_id {n : Nat} (hn : n ≤ 6) : spw n id = [] := spell_none (isP_ent (id_isP n) hn) (desc_id n)
theorem spw_some {n i : Nat} {f : Nat → Nat} (h : IsP f n) (hn : n ≤ 6) (hd : desc (tabN n f) = some i) : spw n f = ((i : Int) + 1) :: spw n (psw f i) := by
  unfold spw
  rw [spell_some (isP_ent h hn) hd, tab_swp (desc_tab hd).1]
theorem mu_psw {n i : Nat} {f : Nat → Nat} (h : IsP f n) (hn : n ≤ 6) (hi : i + 1 < n) (hd : f (i + 1) < f i) : mu (tabN n (psw f i)) < mu (tabN n f) := by
  rw [← tab_swp hi]
  exact ((isP_ent h hn).swp (by simpa using hi) (by rw [tab_getI hi, tab_getI (by omega)]; omega)).2.1
theorem spw_brd {n : Nat} (hn : n ≤ 6) : ∀ (N : Nat) (f : Nat → Nat), IsP f n → mu (tabN n f) ≤ N → brd n (spw n f)
  | 0, f, h, hm => by have := (isP_ent h hn).mu; omega
  | N + 1, f, h, hm => by
    cases hd : desc (tabN n f) with
    | none => unfold spw; rw [spell_none (isP_ent h hn) hd]; exact brd_nil
    | some i =>
      obtain ⟨h1, h2⟩ := desc_tab hd
      rw [spw_some h hn hd]
      exact brd_cons (by omega) (spw_brd hn N _ (psw_isP h h1) (by have := mu_psw h hn h1 h2; omega))
theorem spw_br {n : Nat} (hn : n ≤ 6) {f : Nat → Nat} (h : IsP f n) : brd n (spw n f) := spw_brd hn _ f h (Nat.le_refl _)
/-- ANY DESCENT MAY COME FIRST -/
theorem spw_desc {n : Nat} (hn : n ≤ 6) : ∀ (N : Nat) (f : Nat → Nat) (i : Nat), IsP f n → mu (tabN n f) ≤ N → i + 1 < n → f (i + 1) < f i → WE n (spw n f) (((i : Int) + 1) :: spw n (psw f i))
  | 0, f, i, h, hm, _, _ => by have := (isP_ent h hn).mu; omega
  | N + 1, f, i, h, hm, hi, hlt => by
    obtain ⟨j, hd, hji⟩ := desc_ex hi hlt
    obtain ⟨j1, j2⟩ := desc_tab hd
    rw [spw_some h hn hd]
    by_cases e : j = i
    · subst e; exact WE.refl _
    have hpj := psw_isP h j1
    have hpi := psw_isP h hi
    have mj := mu_psw h hn j1 j2
    have mi := mu_psw h hn hi hlt
    have lj : ((j : Int) + 1) ≠ 0 ∧ (j : Int) + 1 < n ∧ -(n : Int) < (j : Int) + 1 := by omega
    have li : ((i : Int) + 1) ≠ 0 ∧ (i : Int) + 1 < n ∧ -(n : Int) < (i : Int) + 1 := by omega
    by_cases hf : j + 2 ≤ i
    · have d1 : psw f j (i + 1) < psw f j i := by rw [psw_ot (by omega) (by omega), psw_ot (by omega) (by omega)]; exact hlt
      have d2 : psw f i (j + 1) < psw f i j := by rw [psw_ot (by omega) (by omega), psw_ot (by omega) (by omega)]; exact j2
      have k1 := spw_desc hn N (psw f j) i hpj (by omega) hi d1
      have k2 := spw_desc hn N (psw f i) j hpi (by omega) j1 d2
      rw [psw_far hf] at k1
      refine (WE.cons lj k1).trans (WE.trans ?_ (WE.cons li k2).symm)
      exact WE.right (a := [(j : Int) + 1, (i : Int) + 1]) (b := [(i : Int) + 1, (j : Int) + 1]) _ (brd_cons li (brd_one lj)) (WE.far (by omega) (by omega) (by omega) (by omega))
    · obtain rfl : i = j + 1 := by omega
      have x1 : psw f j (j + 1 + 1) < psw f j (j + 1) := by rw [psw_ot (by omega) (by omega), psw_at1]; omega
      have k1 := spw_desc hn N (psw f j) (j + 1) hpj (by omega) hi x1
      have hp2 := psw_isP hpj hi
      have m2 := mu_psw hpj hn hi x1
      have x2 : psw (psw f j) (j + 1) (j + 1) < psw (psw f j) (j + 1) j := by
        rw [psw_at, psw_ot (i := j + 1) (by omega) (by omega), psw_at, psw_ot (by omega) (by omega)]; exact hlt
      have k2 := spw_desc hn N _ j hp2 (by omega) j1 x2
      have y1 : psw f (j + 1) (j + 1) < psw f (j + 1) j := by rw [psw_at, psw_ot (by omega) (by omega)]; omega
      have q1 := spw_desc hn N (psw f (j + 1)) j hpi (by omega) j1 y1
      have hq2 := psw_isP hpi j1
      have n2 := mu_psw hpi hn j1 y1
      have y2 : psw (psw f (j + 1)) j (j + 1 + 1) < psw (psw f (j + 1)) j (j + 1) := by
        rw [psw_at1, psw_ot (i := j) (by omega) (by omega), psw_at1, psw_ot (by omega) (by omega)]; exact j2
      have q2 := spw_desc hn N _ (j + 1) hq2 (by omega) hi y2
      have e3 := psw_braid (f := f) (i := j)
      rw [e3] at k2
      have ec : ((j + 1 : Nat) : Int) + 1 = (j : Int) + 1 + 1 := by omega
      rw [ec] at li k1 q2 ⊢
      refine ((WE.cons lj (k1.trans (WE.cons li k2))).trans (WE.trans ?_ (WE.cons li (q1.trans (WE.cons lj q2))).symm))
      exact WE.right (a := [(j : Int) + 1, (j : Int) + 1 + 1, (j : Int) + 1]) (b := [(j : Int) + 1 + 1, (j : Int) + 1, (j : Int) + 1 + 1]) _ (brd_cons li (brd_cons lj (brd_one li))) (WE.braid (by omega) (by omega))
/-- ANY CROSSING OF NEIGHBOURS MAY COME LAST -/
theorem spw_last {n : Nat} (hn : n ≤ 6) : ∀ (N : Nat) (f : Nat → Nat) (v x y : Nat), IsP f n → mu (tabN n f) ≤ N → x < y → y < n → f x = v → f y = v + 1 → WE n (spw n (vsw f v)) (spw n f ++ [(v : Int) + 1])
  | 0, f, v, x, y, h, hm, _, _, _, _ => by have := (isP_ent h hn).mu; omega
  | N + 1, f, v, x, y, h, hm, hxy, hy, hfx, hfy => by
    have hv : v + 1 < n := by rw [← hfy]; exact h.lt y hy
    have hvp := vsw_isP h hv
    cases hd : desc (tabN n f) with
    | none =>
      have hid : ∀ i, i < n → f i = i := inc_id h (fun i hi hlt => by obtain ⟨j, hj, _⟩ := desc_ex hi hlt; rw [hd] at hj; cases hj)
      have e1 : x = v := by rw [← hfx]; exact (hid x (by omega)).symm
      have e2 : y = v + 1 := by rw [← hfy]; exact (hid y hy).symm
      have hdv : vsw f v (v + 1) < vsw f v v := by
        unfold vsw
        rw [hid _ hv, hid _ (by omega), tau_at, tau_at1]; omega
      have k := spw_desc hn _ (vsw f v) v hvp (Nat.le_refl _) hv hdv
      have e3 : spw n (psw (vsw f v) v) = [] := by
        rw [← spw_id hn]
        unfold spw
        congr 1
        refine tab_ext (fun i hi => ?_)
        show tau (v + 1) (f (tau (v + 1) i)) = i
        rw [hid _ (tau_lt (by omega) hi), tau_tau (n := n) (by omega)]
      have e4 : spw n f = [] := by rw [← spw_id hn]; unfold spw; rw [tab_id hid]
      rw [e3] at k
      rw [e4]
      exact k
    | some j =>
      obtain ⟨j1, j2⟩ := desc_tab hd
      have lj : ((j : Int) + 1) ≠ 0 ∧ (j : Int) + 1 < n ∧ -(n : Int) < (j : Int) + 1 := by omega
      have hne : ¬ (f j = v + 1 ∧ f (j + 1) = v) := fun ⟨a, b⟩ => by
        have c1 := h.inj j y (by omega) hy (by rw [a, hfy])
        have c2 := h.inj (j + 1) x j1 (by omega) (by rw [b, hfx])
        omega
      have hdj : vsw f v (j + 1) < vsw f v j := by
        unfold vsw tau
        have hff : f j ≠ f (j + 1) := by omega
        repeat' split
        all_goals omega
      have k1 := spw_desc hn _ (vsw f v) j hvp (Nat.le_refl _) j1 hdj
      rw [vsw_psw] at k1
      have mj := mu_psw h hn j1 j2
      have hx2 : psw f j (tau (j + 1) x) = v := by unfold psw; rw [tau_tau (n := n) (by omega)]; exact hfx
      have hy2 : psw f j (tau (j + 1) y) = v + 1 := by unfold psw; rw [tau_tau (n := n) (by omega)]; exact hfy
      have hxy2 : tau (j + 1) x < tau (j + 1) y := by
        have hn2 : ¬ (x = j ∧ y = j + 1) := fun ⟨a, b⟩ => by subst a b; omega
        unfold tau
        repeat' split
        all_goals omega
      have k2 := spw_last hn N (psw f j) v _ _ (psw_isP h j1) (by omega) hxy2 (tau_lt (by omega) hy) hx2 hy2
      rw [spw_some h hn hd]
      exact k1.trans (WE.cons lj k2)
end Go.Proofs.Ytgjfpmjllpgadaa
