/- Terms of a polynomial as a map: the plain facts. Nothing of the program is here. -/
import Derived.Test.YtenoiklocdoemaaGAlexanderMinorsAV
import Derived.Test.YtenoiklocdoemaaGAlexanderMinorsAX
set_option linter.unusedVariables false
set_option linter.unusedSimpArgs false
namespace Go.Proofs.Ytenoiklocdoemaa

abbrev Tm := Int → Option Int
def tv (f : Tm) (e : Int) : Int := (f e).getD 0
def tplus (a b : Tm) (k : Int) : Tm := fun e => if (a e).isSome || (b e).isSome then some (tv a e + k * tv b e) else none
theorem tv_plus (a b : Tm) (k e : Int) : tv (tplus a b k) e = tv a e + k * tv b e := by
  unfold tv tplus tv
  cases ha : a e <;> cases hb : b e <;> simp
def lkp (ps : List (Int × Int)) : Tm := fun e => (ps.find? (fun y => y.1 == e)).map (·.2)
theorem lkp_nil : lkp [] = fun _ => none := rfl
theorem lkp_fresh {ps : List (Int × Int)} {k : Int} (h : ∀ y ∈ ps, y.1 ≠ k) : lkp ps k = none := by
  unfold lkp
  rw [Option.map_eq_none_iff, List.find?_eq_none]
  intro y hy
  simpa using h y hy
theorem lkp_snoc {ps : List (Int × Int)} {k c : Int} (h : ∀ y ∈ ps, y.1 ≠ k) : lkp (ps ++ [(k, c)]) = fun e => if e = k then some c else lkp ps e := by
  funext e
  by_cases he : e = k
  · subst he
    have h1 : ps.find? (fun y => y.1 == e) = none := List.find?_eq_none.2 (fun y hy => by simpa using h y hy)
    simp [lkp, List.find?_append, h1]
  · rw [if_neg he]
    unfold lkp
    rw [List.find?_append]
    cases h1 : ps.find? (fun y => y.1 == e) with
    | some y => simp
    | none => simp [List.find?_cons, show (k == e) = false from by simpa using fun hh : k = e => he hh.symm]
def Enum (f : Tm) (ps : List (Int × Int)) : Prop := (∀ y ∈ ps, f y.1 = some y.2) ∧ (ps.map (·.1)).Nodup
theorem Enum.nil (f : Tm) : Enum f [] := ⟨fun _ h => (by cases h), List.nodup_nil⟩
theorem Enum.snoc {f : Tm} {ps : List (Int × Int)} (h : Enum f ps) {k c : Int} (hk : f k = some c) (hf : ∀ y ∈ ps, y.1 ≠ k) : Enum f (ps ++ [(k, c)]) := by
  refine ⟨fun y hy => ?_, ?_⟩
  · rcases List.mem_append.1 hy with hy | hy
    · exact h.1 y hy
    · rw [List.mem_singleton] at hy; subst hy; exact hk
  · rw [List.map_append, List.nodup_append]
    refine ⟨h.2, by simp, fun a ha b hb => ?_⟩
    obtain ⟨y, hy, rfl⟩ := List.mem_map.1 ha
    simp at hb; subst hb
    exact hf y hy
theorem Enum.lkp {f : Tm} {ps : List (Int × Int)} (h : Enum f ps) {k c : Int} (hm : (k, c) ∈ ps) : Go.Proofs.Ytenoiklocdoemaa.lkp ps k = some c := by
  unfold Go.Proofs.Ytenoiklocdoemaa.lkp
  cases h1 : ps.find? (fun y => y.1 == k) with
  | none => exact absurd (List.find?_eq_none.1 h1 _ hm) (by simp)
  | some y =>
    have h2 := List.find?_some h1
    have h3 := List.mem_of_find?_eq_some h1
    have h4 := h.1 y h3
    have h5 := h.1 _ hm
    simp only [beq_iff_eq] at h2
    rw [h2] at h4
    simp only at h5
    rw [h5] at h4
    simpa using h4.symm
theorem Enum.full {f : Tm} {ps : List (Int × Int)} (h : Enum f ps) (hall : ∀ k c, f k = some c → (k, c) ∈ ps) : Go.Proofs.Ytenoiklocdoemaa.lkp ps = f := by
  funext e
  cases he : f e with
  | some c => exact h.lkp (hall e c he)
  | none =>
    refine lkp_fresh (fun y hy hh => ?_)
    have := h.1 y hy
    rw [hh, he] at this; cases this
theorem nodup_bd : ∀ (n : Nat) (lo : Int) (l : List Int), l.Nodup → (∀ x ∈ l, lo ≤ x ∧ x < lo + n) → l.length ≤ n
  | 0, lo, l, _, h => by
    cases l with
    | nil => simp
    | cons x l => have := h x (by simp); omega
  | n + 1, lo, l, hn, h => by
    have h1 := nodup_bd n lo (l.erase (lo + n)) (hn.erase _) (fun x hx => by
      have h2 := h x (List.mem_of_mem_erase hx)
      have h3 : x ≠ lo + n := fun e => by
        subst e
        exact absurd hx (hn.not_mem_erase)
      omega)
    have h2 := List.length_erase (a := lo + n) (l := l)
    split at h2 <;> omega
theorem Enum.len {f : Tm} {ps : List (Int × Int)} (h : Enum f ps) {B : Nat} (hb : ∀ e, (f e).isSome = true → -(B : Int) ≤ e ∧ e ≤ B) : ps.length ≤ 2 * B + 1 := by
  have := nodup_bd (2 * B + 1) (-(B : Int)) (ps.map (·.1)) h.2 (fun x hx => by
    obtain ⟨y, hy, rfl⟩ := List.mem_map.1 hx
    have := hb y.1 (by rw [h.1 y hy]; rfl)
    omega)
  simpa using this
theorem tplus_none (a : Tm) (k : Int) : tplus a (fun _ => none) k = a := by
  funext e
  unfold tplus tv
  cases a e <;> simp
/-- what one more term of b does -/
theorem tplus_step {a : Tm} {qs : List (Int × Int)} {k e c : Int} (h : ∀ y ∈ qs, y.1 ≠ e) : (fun y => if y = e then some ((tplus a (lkp qs) k e).getD 0 + k * c) else tplus a (lkp qs) k y) = tplus a (lkp (qs ++ [(e, c)])) k := by
  funext y
  rw [lkp_snoc h]
  by_cases hy : y = e
  · subst hy
    have h0 : lkp qs y = none := lkp_fresh h
    have := tv_plus a (lkp qs) k y
    rw [if_pos rfl]
    rw [show (tplus a (lkp qs) k y).getD 0 = tv (tplus a (lkp qs) k) y from rfl, this]
    unfold tplus tv
    rw [h0]
    simp
  · rw [if_neg hy]
    unfold tplus tv
    simp only [if_neg hy]
theorem lkp_step {qs : List (Int × Int)} {e c : Int} (h : ∀ y ∈ qs, y.1 ≠ e) : (fun y => if y = e then some ((lkp qs e).getD 0 + c) else lkp qs y) = lkp (qs ++ [(e, c)]) := by
  rw [lkp_snoc h]
  funext y
  rw [lkp_fresh h]
  simp
/-- what one more term does -/
theorem tplus_put {a b1 : Tm} {k e c : Int} (h : b1 e = none) : (fun y => if y = e then some ((tplus a b1 k e).getD 0 + k * c) else tplus a b1 k y) = tplus a (fun y => if y = e then some c else b1 y) k := by
  funext y
  by_cases hy : y = e
  · subst hy
    have := tv_plus a b1 k y
    rw [if_pos rfl]
    rw [show (tplus a b1 k y).getD 0 = tv (tplus a b1 k) y from rfl, this]
    unfold tplus tv
    rw [h]
    simp
  · rw [if_neg hy]
    unfold tplus tv
    simp only [if_neg hy]
def shf (e : Int) (b : Tm) : Tm := fun x => b (x - e)
theorem shf_snoc {qs : List (Int × Int)} {e f d : Int} (h : ∀ y ∈ qs, y.1 ≠ f) : (fun y => if y = e + f then some d else shf e (lkp qs) y) = shf e (lkp (qs ++ [(f, d)])) := by
  funext y
  unfold shf
  rw [lkp_snoc h]
  by_cases hy : y = e + f
  · rw [if_pos hy]; exact (if_pos (by omega)).symm
  · rw [if_neg hy]; exact (if_neg (by omega)).symm
theorem shf_none (e : Int) : shf e (fun _ => none) = fun _ => none := rfl
/-- the product of the terms ps with b -/
def gM (b : Tm) (ps : List (Int × Int)) : Tm := fun x => if ps.any (fun y => (b (x - y.1)).isSome) then some ((ps.map fun y => y.2 * tv b (x - y.1)).sum) else none
theorem sum_zero {l : List Int} (h : ∀ x ∈ l, x = 0) : l.sum = 0 := by
  induction l with
  | nil => rfl
  | cons x l ih => rw [List.sum_cons, h x (by simp), ih (fun y hy => h y (by simp [hy]))]; rfl
theorem tv_gM (b : Tm) (ps : List (Int × Int)) (x : Int) : tv (gM b ps) x = (ps.map fun y => y.2 * tv b (x - y.1)).sum := by
  show (gM b ps x).getD 0 = _
  unfold gM
  split
  · rfl
  · rename_i h
    rw [Option.getD_none, sum_zero]
    intro z hz
    obtain ⟨y, hy, rfl⟩ := List.mem_map.1 hz
    have : (b (x - y.1)).isSome = false := by
      cases hb : (b (x - y.1)).isSome with
      | false => rfl
      | true => exact absurd (List.any_eq_true.2 ⟨y, hy, hb⟩) h
    cases hb : b (x - y.1) with
    | none => simp [tv, hb]
    | some v => rw [hb] at this; cases this
theorem gM_snoc (b : Tm) (ps : List (Int × Int)) (e c : Int) : gM b (ps ++ [(e, c)]) = tplus (gM b ps) (shf e b) c := by
  funext x
  have h1 := tv_gM b ps x
  have hs : (gM b ps x).isSome = ps.any (fun y => (b (x - y.1)).isSome) := by
    unfold gM
    split
    · rename_i h; rw [h]; rfl
    · rename_i h; rw [Bool.not_eq_true] at h; rw [h]; rfl
  unfold tplus
  rw [h1, hs]
  unfold gM
  rw [List.any_append, List.map_append, List.sum_append]
  simp only [List.any_cons, List.any_nil, Bool.or_false, List.map_cons, List.map_nil, List.sum_cons, List.sum_nil, Int.add_zero]
  rfl
theorem sum_perm {l l' : List Int} (h : l.Perm l') : l.sum = l'.sum := by
  induction h with
  | nil => rfl
  | cons x _ ih => simp [ih]
  | swap x y l => simp only [List.sum_cons]; omega
  | trans _ _ h1 h2 => rw [h1, h2]
theorem perm_in : ∀ (l m : List (Int × Int)), l.Nodup → (∀ x ∈ l, x ∈ m) → m.length ≤ l.length → l.Perm m
  | [], m, _, _, hl => by
    have : m = [] := List.eq_nil_of_length_eq_zero (by simpa using hl)
    subst this; exact List.Perm.refl _
  | x :: l, m, hd, hm, hl => by
    have hx := hm x (by simp)
    have hp := List.perm_cons_erase hx
    obtain ⟨hd1, hd2⟩ := List.nodup_cons.1 hd
    refine (List.Perm.cons x (perm_in l (m.erase x) hd2 (fun y hy => ?_) ?_)).trans hp.symm
    · refine (List.mem_erase_of_ne ?_).2 (hm y (by simp [hy]))
      rintro rfl; exact hd1 hy
    · rw [List.length_erase_of_mem hx]; simp at hl; omega
def Full (f : Tm) (ps : List (Int × Int)) : Prop := ∀ k c, f k = some c → (k, c) ∈ ps
theorem Enum.perm {f : Tm} {ps qs : List (Int × Int)} (h1 : Enum f ps) (h2 : Enum f qs) (f1 : Full f ps) (f2 : Full f qs) : ps.Perm qs := by
  have n1 : ps.Nodup := List.Pairwise.of_map _ (fun a b hab he => hab (by rw [he])) h1.2
  have n2 : qs.Nodup := List.Pairwise.of_map _ (fun a b hab he => hab (by rw [he])) h2.2
  have s1 : ∀ x ∈ ps, x ∈ qs := fun x hx => f2 x.1 x.2 (h1.1 x hx)
  have s2 : ∀ x ∈ qs, x ∈ ps := fun x hx => f1 x.1 x.2 (h2.1 x hx)
  rcases Nat.le_total qs.length ps.length with h | h
  · exact perm_in _ _ n1 s1 h
  · exact (perm_in _ _ n2 s2 h).symm
theorem gM_perm {b : Tm} {ps qs : List (Int × Int)} (h : ps.Perm qs) : gM b ps = gM b qs := by
  funext x
  unfold gM
  have e1 : ps.any (fun y => (b (x - y.1)).isSome) = qs.any (fun y => (b (x - y.1)).isSome) := by
    rw [Bool.eq_iff_iff, List.any_eq_true, List.any_eq_true]
    constructor
    · rintro ⟨y, h1, h2⟩; exact ⟨y, h.mem_iff.1 h1, h2⟩
    · rintro ⟨y, h1, h2⟩; exact ⟨y, h.mem_iff.2 h1, h2⟩
  rw [e1, sum_perm (h.map fun y => y.2 * tv b (x - y.1))]
noncomputable def tmul (a b : Tm) : Tm := @dite _ (∃ ps, Enum a ps ∧ Full a ps) (Classical.propDecidable _) (fun h => gM b (Classical.choose h)) (fun _ => fun _ => none)
theorem tmul_eq {a b : Tm} {ps : List (Int × Int)} (h1 : Enum a ps) (h2 : Full a ps) : tmul a b = gM b ps := by
  have hex : ∃ ps, Enum a ps ∧ Full a ps := ⟨ps, h1, h2⟩
  unfold tmul
  rw [dif_pos hex]
  obtain ⟨g1, g2⟩ := Classical.choose_spec hex
  exact gM_perm (g1.perm h1 g2 h2)
/-- the terms of a polynomial -/
def spT (p : Po) (i : Nat) : Tm := fun e => if coT p i e = 0 then none else some (coT p i e)
def spl (p : Po) : Tm := fun e => if co p e = 0 then none else some (co p e)
theorem canon_range {F : Int → Int} {low high : Int} (h1 : F low ≠ 0) (h2 : F high ≠ 0) (h3 : ∀ e, F e ≠ 0 → low ≤ e ∧ e ≤ high) {n : Nat} (hn : (n : Int) = high - low + 1) : cano F = (low, tab n (fun j => F (low + j))) := by
  have h4 := h3 low h1
  have h5 := h3 high h2
  refine cano_eq (.inr ⟨?_, ?_, ?_⟩) (fun e => ?_)
  · intro e; have := congrArg List.length e; simp at this; omega
  · simp only
    rw [tab_get (by omega)]; simpa using h1
  · simp only [tab_length]
    rw [tab_get (by omega), show low + ((n - 1 : Nat) : Int) = high by omega]; exact h2
  · exact congrFun (co_tab (F := F) (fun e he => by have := h3 e he; omega)) e
end Go.Proofs.Ytenoiklocdoemaa

/- The reference's terms: Plus. No condition of its own. -/
set_option linter.unusedVariables false
set_option linter.unusedSimpArgs false
namespace Go.Proofs.Ytenoiklocdoemaa
open Go.RowKit

end Go.Proofs.Ytenoiklocdoemaa

/- The reference's terms: Mul. No condition of its own. -/
set_option linter.unusedVariables false
set_option linter.unusedSimpArgs false
namespace Go.Proofs.Ytenoiklocdoemaa
open Go.RowKit

end Go.Proofs.Ytenoiklocdoemaa

/- The reference's terms: Split, Poly, Same. No condition of its own. -/
set_option linter.unusedVariables false
set_option linter.unusedSimpArgs false
namespace Go.Proofs.Ytenoiklocdoemaa
open Go.RowKit

theorem Fz.agg2 {h : HP} {a b a' b' : PV} (h1 : Fz h a a') (h2 : Fz h b b') : Fz h (.agg [a, b]) (.agg [a', b']) :=
  .agg rfl (fun i hi => by
    match i, hi with
    | 0, _ => exact h1
    | 1, _ => exact h2
    | i + 2, hi => simp at hi; omega)
set_option maxHeartbeats 8000000 in
set_option maxRecDepth 100000 in
theorem same_s (p q : Po) : SC Try.prog 14 [ppo p, ppo q] (.sc (.bool (decide (p = q)))) := by
  obtain ⟨l1, c1⟩ := p
  obtain ⟨l2, c2⟩ := q
  refine SC.go {} tok mixed Try.func14 rfl rfl Try.ntmps14 rfl rfl (by kernel_rfl) ?_
  first | simp only [updS] | simp only [updL, Nat.reduceAdd]
  by_cases h1 : l1 = l2
  · repeat (first | refine S0 ?_ | refine S1 ?_ | refine S2 ?_ | refine S4 ?_ | refine S5 ?_ | refine S6 ?_ | refine S7 ?_ | refine S8 ?_ | refine S9 ?_ | refine S10 ?_ | refine S11 ?_ | refine S13 ?_ | refine S15 ?_ | refine S16 ?_ | refine S19 ?_ | refine S20 ?_ | refine S21 ?_ | refine S22 ?_ | refine S26 ?_ | refine S28 ?_ | refine S30 ?_ | refine S31 ?_ | refine S34 ?_ | refine S36 ?_ | refine S37 ?_ | refine S38 ?_ | refine S40 ?_ | refine S41 ?_ | refine S43 ?_ | refine S44 ?_ | refine S45 ?_ | refine S46 ?_ | refine S48 ?_ | refine S49 ?_ | refine S63 ?_ | refine S64 ?_ | refine S65 ?_ | refine S66 ?_ | refine S68 ?_ | refine S69 ?_ | refine S83 ?_ | refine S85 ?_ | refine S87 ?_)
    refine Scall (args := [pli c1, pli c2]) (equal_s c1 c2) ?_
    repeat (first | refine S0 ?_ | refine S1 ?_ | refine S2 ?_ | refine S4 ?_ | refine S5 ?_ | refine S6 ?_ | refine S7 ?_ | refine S8 ?_ | refine S9 ?_ | refine S10 ?_ | refine S11 ?_ | refine S13 ?_ | refine S15 ?_ | refine S16 ?_ | refine S19 ?_ | refine S20 ?_ | refine S21 ?_ | refine S22 ?_ | refine S26 ?_ | refine S28 ?_ | refine S30 ?_ | refine S31 ?_ | refine S34 ?_ | refine S36 ?_ | refine S37 ?_ | refine S38 ?_ | refine S40 ?_ | refine S41 ?_ | refine S43 ?_ | refine S44 ?_ | refine S45 ?_ | refine S46 ?_ | refine S48 ?_ | refine S49 ?_ | refine S63 ?_ | refine S64 ?_ | refine S65 ?_ | refine S66 ?_ | refine S68 ?_ | refine S69 ?_ | refine S83 ?_ | refine S85 ?_ | refine S87 ?_)
    rw [show decide ((l1, c1) = (l2, c2)) = decide (c1 = c2) by simp [h1]]
    exact ⟨.inr rfl, .cl rfl⟩
  · repeat (first | refine S0 ?_ | refine S1 ?_ | refine S2 ?_ | refine S4 ?_ | refine S5 ?_ | refine S6 ?_ | refine S7 ?_ | refine S8 ?_ | refine S9 ?_ | refine S10 ?_ | refine S11 ?_ | refine S13 ?_ | refine S15 ?_ | refine S16 ?_ | refine S19 ?_ | refine S20 ?_ | refine S21 ?_ | refine S22 ?_ | refine S26 ?_ | refine S28 ?_ | refine S30 ?_ | refine S31 ?_ | refine S34 ?_ | refine S36 ?_ | refine S37 ?_ | refine S38 ?_ | refine S40 ?_ | refine S41 ?_ | refine S43 ?_ | refine S44 ?_ | refine S45 ?_ | refine S46 ?_ | refine S48 ?_ | refine S49 ?_ | refine S63 ?_ | refine S64 ?_ | refine S65 ?_ | refine S66 ?_ | refine S68 ?_ | refine S69 ?_ | refine S83 ?_ | refine S85 ?_ | refine S87 ?_)
    rw [show decide ((l1, c1) = (l2, c2)) = false by simp [h1]]
    exact ⟨.inr rfl, .cl rfl⟩
def PI (f : Tm) (ps : List (Int × Int)) (low high : Int) (any : Bool) : Prop := (any = false ∧ low = 0 ∧ high = 0 ∧ ∀ y ∈ ps, y.2 = 0) ∨ (any = true ∧ (tv f low ≠ 0 ∧ low ≤ high) ∧ tv f high ≠ 0 ∧ ∀ y ∈ ps, y.2 ≠ 0 → low ≤ y.1 ∧ y.1 ≤ high)
theorem snoc_all {α : Type} {ps : List α} {x : α} {p : α → Prop} (h : ∀ y ∈ ps, p y) (hx : p x) : ∀ y ∈ ps ++ [x], p y := fun y hy => by
  rcases List.mem_append.1 hy with hy | hy
  · exact h y hy
  · rw [List.mem_singleton] at hy; subst hy; exact hx
end Go.Proofs.Ytenoiklocdoemaa

/- Fox derivatives: the plain facts. Nothing of the program is here. -/
set_option linter.unusedVariables false
set_option linter.unusedSimpArgs false
namespace Go.Proofs.Ytenoiklocdoemaa

def sg (x : Int) : Int := if 0 < x then 1 else -1
def wt (w : List Int) : Int := (w.map sg).sum
def fx1 (i x e : Int) : Int := if x = i then (if e = 0 then 1 else 0) else if x = -i then (if e = -1 then -1 else 0) else 0
def foxD (i : Int) : List Int → Int → Int
  | [], _ => 0
  | x :: w, e => fx1 i x e + foxD i w (e - sg x)
def single (s c : Int) : Tm := fun y => if y = s then some c else none
/-- the reference's way: by halves -/
noncomputable def dm (i : Int) : Nat → List Int → Tm
  | 0, _ => fun _ => none
  | n + 1, w => if w.length = 0 then fun _ => none else if w = [i] then single 0 1 else if w = [-i] then single (-1) (-1) else if w.length = 1 then fun _ => none else
    tplus (dm i n (w.take (w.length / 2))) (tmul (single (wt (w.take (w.length / 2))) 1) (dm i n (w.drop (w.length / 2)))) 1
end Go.Proofs.Ytenoiklocdoemaa

/- laurent: Check, Fit, Times, Mul; the reference's PolyFault and Fits. No condition of its own. -/
set_option linter.unusedVariables false
set_option linter.unusedSimpArgs false
namespace Go.Proofs.Ytenoiklocdoemaa
open Go.RowKit

def okc (x : Int) : Prop := -100000000 ≤ x ∧ x ≤ 100000000
instance (x : Int) : Decidable (okc x) := by unfold okc; exact inferInstance
instance (p : Po) : Decidable (canon p) := by unfold canon; exact inferInstance
def pF (p : Po) : Int := if 200 < p.2.length ∨ 1000 < p.1 ∨ p.1 < -1000 then 2 else if ¬ canon p then 3 else if ∀ x ∈ p.2, okc x then 0 else 1
/-- what Fit and Fits return -/
def fitP (p : Po) : PV := .tup [ppo (if pF p = 0 then p else (0, [])), pint (if pF p = 0 then 0 else 2)]
end Go.Proofs.Ytenoiklocdoemaa

/- laurent: Times, Mul; multiplied. No condition of its own. -/
set_option linter.unusedVariables false
set_option linter.unusedSimpArgs false
namespace Go.Proofs.Ytenoiklocdoemaa
open Go.RowKit

/-- the product: the rows below i, and of row i the first j -/
def cv (a b : Po) (i j : Nat) (e : Int) : Int := ((List.range i).map fun r => a.2.getD r 0 * co b (e - a.1 - r)).sum + a.2.getD i 0 * coT b j (e - a.1 - i)
def cvn (a b : Po) (i : Nat) (e : Int) : Int := ((List.range i).map fun r => a.2.getD r 0 * co b (e - a.1 - r)).sum
def pmul (a b : Po) (e : Int) : Int := cvn a b a.2.length e
theorem cvn_succ (a b : Po) (i : Nat) (e : Int) : cvn a b (i + 1) e = cvn a b i e + a.2.getD i 0 * co b (e - a.1 - i) := by
  unfold cvn
  rw [List.range_succ, List.map_append, List.sum_append]; simp
theorem cvn_supp {a b : Po} {i : Nat} (hi : i ≤ a.2.length) {e : Int} (h : cvn a b i e ≠ 0) : a.1 + b.1 ≤ e ∧ e < a.1 + b.1 + (a.2.length + b.2.length - 1 : Nat) := by
  apply Classical.byContradiction; intro hc
  apply h
  unfold cvn
  apply sum_zero
  intro z hz
  obtain ⟨r, hr, rfl⟩ := List.mem_map.1 hz
  rw [List.mem_range] at hr
  by_cases h1 : co b (e - a.1 - r) = 0
  · rw [h1, Int.mul_zero]
  · have := co_in h1; omega
/-- what Add, Sub and Mul return -/
noncomputable def opP (p q : Po) (F : Int → Int) : PV := .tup [ppo (if (if pF p = 0 then pF q else pF p) = 0 then (if pF (cano F) = 0 then cano F else (0, [])) else (0, [])), pint (if (if pF p = 0 then pF q else pF p) = 0 then (if pF (cano F) = 0 then 0 else 2) else (if pF p = 0 then pF q else pF p))]
end Go.Proofs.Ytenoiklocdoemaa
