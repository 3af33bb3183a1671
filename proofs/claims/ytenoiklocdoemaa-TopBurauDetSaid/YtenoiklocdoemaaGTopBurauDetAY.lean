/- Terms of a polynomial as a map: the plain facts. Nothing of the program is here. -/
import Derived.Test.YtenoiklocdoemaaGTopBurauDetAW
import Derived.Test.YtenoiklocdoemaaGTopBurauDetAV
set_option linter.unusedVariables false
set_option linter.unusedSimpArgs false
namespace Go.Proofs.Ytenoiklocdoemaa

abbrev Tm := Int → Option Int
def tv (f : Tm) (e : Int) : Int := (f e).getD 0
def tplus (a b : Tm) (k : Int) : Tm := fun e => if (a e).isSome || (b e).isSome then some (tv a e + k * tv b e) else none
def lkp (ps : List (Int × Int)) : Tm := fun e => (ps.find? (fun y => y.1 == e)).map (·.2)
def Enum (f : Tm) (ps : List (Int × Int)) : Prop := (∀ y ∈ ps, f y.1 = some y.2) ∧ (ps.map (·.1)).Nodup
theorem Enum.nil (f : Tm) : Enum f [] := ⟨fun _ h => (by cases h), List.nodup_nil⟩
theorem Enum.lkp {f : Tm} {ps : List (Int × Int)} (h : Enum f ps) {k c : Int} (hm : (k, c) ∈ ps) : Go.Proofs.Ytenoiklocdoemaa.lkp ps k = some c := by
  unfold Go.Proofs.Ytenoiklocdoemaa.lkp
  cases h1 : ps.find? (fun y => y.1 == k) with
  | none => exact absurd (List.find?_eq_none.1 h1 _ hm) (by simp)
  | some y =>
    have h2 := List.find?_some h1
    have h3 := List.mem_of_find?_eq_some h1
    have h4 := h.1 y h3
    have h5 := h.1 _ hm
    simp only [beq_iff_eq] at h2
    rw [h2] at h4
    simp only at h5
    rw [h5] at h4
    simpa using h4.symm
theorem nodup_bd : ∀ (n : Nat) (lo : Int) (l : List Int), l.Nodup → (∀ x ∈ l, lo ≤ x ∧ x < lo + n) → l.length ≤ n
  | 0, lo, l, _, h => by
    cases l with
    | nil => simp
    | cons x l => have := h x (by simp); omega
  | n + 1, lo, l, hn, h => by
    have h1 := nodup_bd n lo (l.erase (lo + n)) (hn.erase _) (fun x hx => by
      have h2 := h x (List.mem_of_mem_erase hx)
      have h3 : x ≠ lo + n := fun e => by
        subst e
        exact absurd hx (hn.not_mem_erase)
      omega)
    have h2 := List.length_erase (a := lo + n) (l := l)
    split at h2 <;> omega
theorem Enum.len {f : Tm} {ps : List (Int × Int)} (h : Enum f ps) {B : Nat} (hb : ∀ e, (f e).isSome = true → -(B : Int) ≤ e ∧ e ≤ B) : ps.length ≤ 2 * B + 1 := by
  have := nodup_bd (2 * B + 1) (-(B : Int)) (ps.map (·.1)) h.2 (fun x hx => by
    obtain ⟨y, hy, rfl⟩ := List.mem_map.1 hx
    have := hb y.1 (by rw [h.1 y hy]; rfl)
    omega)
  simpa using this
def shf (e : Int) (b : Tm) : Tm := fun x => b (x - e)
/-- the product of the terms ps with b -/
def gM (b : Tm) (ps : List (Int × Int)) : Tm := fun x => if ps.any (fun y => (b (x - y.1)).isSome) then some ((ps.map fun y => y.2 * tv b (x - y.1)).sum) else none
theorem sum_zero {l : List Int} (h : ∀ x ∈ l, x = 0) : l.sum = 0 := by
  induction l with
  | nil => rfl
  | cons x l ih => rw [List.sum_cons, h x (by simp), ih (fun y hy => h y (by simp [hy]))]; rfl
theorem tv_gM (b : Tm) (ps : List (Int × Int)) (x : Int) : tv (gM b ps) x = (ps.map fun y => y.2 * tv b (x - y.1)).sum := by
  show (gM b ps x).getD 0 = _
  unfold gM
  split
  · rfl
  · rename_i h
    rw [Option.getD_none, sum_zero]
    intro z hz
    obtain ⟨y, hy, rfl⟩ := List.mem_map.1 hz
    have : (b (x - y.1)).isSome = false := by
      cases hb : (b (x - y.1)).isSome with
      | false => rfl
      | true => exact absurd (List.any_eq_true.2 ⟨y, hy, hb⟩) h
    cases hb : b (x - y.1) with
    | none => simp [tv, hb]
    | some v => rw [hb] at this; cases this
theorem sum_perm {l l' : List Int} (h : l.Perm l') : l.sum = l'.sum := by
  induction h with
  | nil => rfl
  | cons x _ ih => simp [ih]
  | swap x y l => simp only [List.sum_cons]; omega
  | trans _ _ h1 h2 => rw [h1, h2]
theorem perm_in : ∀ (l m : List (Int × Int)), l.Nodup → (∀ x ∈ l, x ∈ m) → m.length ≤ l.length → l.Perm m
  | [], m, _, _, hl => by
    have : m = [] := List.eq_nil_of_length_eq_zero (by simpa using hl)
    subst this; exact List.Perm.refl _
  | x :: l, m, hd, hm, hl => by
    have hx := hm x (by simp)
    have hp := List.perm_cons_erase hx
    obtain ⟨hd1, hd2⟩ := List.nodup_cons.1 hd
    refine (List.Perm.cons x (perm_in l (m.erase x) hd2 (fun y hy => ?_) ?_)).trans hp.symm
    · refine (List.mem_erase_of_ne ?_).2 (hm y (by simp [hy]))
      rintro rfl; exact hd1 hy
    · rw [List.length_erase_of_mem hx]; simp at hl; omega
def Full (f : Tm) (ps : List (Int × Int)) : Prop := ∀ k c, f k = some c → (k, c) ∈ ps
theorem Enum.perm {f : Tm} {ps qs : List (Int × Int)} (h1 : Enum f ps) (h2 : Enum f qs) (f1 : Full f ps) (f2 : Full f qs) : ps.Perm qs := by
  have n1 : ps.Nodup := List.Pairwise.of_map _ (fun a b hab he => hab (by rw [he])) h1.2
  have n2 : qs.Nodup := List.Pairwise.of_map _ (fun a b hab he => hab (by rw [he])) h2.2
  have s1 : ∀ x ∈ ps, x ∈ qs := fun x hx => f2 x.1 x.2 (h1.1 x hx)
  have s2 : ∀ x ∈ qs, x ∈ ps := fun x hx => f1 x.1 x.2 (h2.1 x hx)
  rcases Nat.le_total qs.length ps.length with h | h
  · exact perm_in _ _ n1 s1 h
  · exact (perm_in _ _ n2 s2 h).symm
theorem gM_perm {b : Tm} {ps qs : List (Int × Int)} (h : ps.Perm qs) : gM b ps = gM b qs := by
  funext x
  unfold gM
  have e1 : ps.any (fun y => (b (x - y.1)).isSome) = qs.any (fun y => (b (x - y.1)).isSome) := by
    rw [Bool.eq_iff_iff, List.any_eq_true, List.any_eq_true]
    constructor
    · rintro ⟨y, h1, h2⟩; exact ⟨y, h.mem_iff.1 h1, h2⟩
    · rintro ⟨y, h1, h2⟩; exact ⟨y, h.mem_iff.2 h1, h2⟩
  rw [e1, sum_perm (h.map fun y => y.2 * tv b (x - y.1))]
noncomputable def tmul (a b : Tm) : Tm := @dite _ (∃ ps, Enum a ps ∧ Full a ps) (Classical.propDecidable _) (fun h => gM b (Classical.choose h)) (fun _ => fun _ => none)
theorem tmul_eq {a b : Tm} {ps : List (Int × Int)} (h1 : Enum a ps) (h2 : Full a ps) : tmul a b = gM b ps := by
  have hex : ∃ ps, Enum a ps ∧ Full a ps := ⟨ps, h1, h2⟩
  unfold tmul
  rw [dif_pos hex]
  obtain ⟨g1, g2⟩ := Classical.choose_spec hex
  exact gM_perm (g1.perm h1 g2 h2)
/-- the terms of a polynomial -/
def spT (p : Po) (i : Nat) : Tm := fun e => if coT p i e = 0 then none else some (coT p i e)
def spl (p : Po) : Tm := fun e => if co p e = 0 then none else some (co p e)
theorem canon_range {F : Int → Int} {low high : Int} (h1 : F low ≠ 0) (h2 : F high ≠ 0) (h3 : ∀ e, F e ≠ 0 → low ≤ e ∧ e ≤ high) {n : Nat} (hn : (n : Int) = high - low + 1) : cano F = (low, tab n (fun j => F (low + j))) := by
  have h4 := h3 low h1
  have h5 := h3 high h2
  refine cano_eq (.inr ⟨?_, ?_, ?_⟩) (fun e => ?_)
  · intro e; have := congrArg List.length e; simp at this; omega
  · simp only
    rw [tab_get (by omega)]; simpa using h1
  · simp only [tab_length]
    rw [tab_get (by omega), show low + ((n - 1 : Nat) : Int) = high by omega]; exact h2
  · exact congrFun (co_tab (F := F) (fun e he => by have := h3 e he; omega)) e
end Go.Proofs.Ytenoiklocdoemaa

/- slices.IndexFunc and ContainsFunc at lists of ints. No condition of its own. -/
set_option linter.unusedVariables false
set_option linter.unusedSimpArgs false
namespace Go.Proofs.Ytenoiklocdoemaa
open Go.RowKit

set_option maxHeartbeats 2000000 in
set_option maxRecDepth 100000 in
theorem indexFunc_none {xs : List Int} {f : FuncId} {cap : List PV} (hx : xs.length ≤ 1000000) (hcl : PV.cl.clL cap = true) (h : ∀ k, k < xs.length → SC Try.prog f (pint (xs.getD k 0) :: cap) (.sc (.bool false))) : SC Try.prog 69 [pli xs, .clo f cap] (pint (-1)) := by
  refine SC.go {} tok mixed Try.func69 rfl rfl Try.ntmps69 rfl rfl (by kernel_rfl) ?_
  first | simp only [updS] | simp only [updL, Nat.reduceAdd]
  repeat (first | refine S0 ?_ | refine S1 ?_ | refine S2 ?_ | refine S4 ?_ | refine S5 ?_ | refine S6 ?_ | refine S7 ?_ | refine S8 ?_ | refine S9 ?_ | refine S10 ?_ | refine S11 ?_ | refine S12 ?_ | refine S13 ?_ | refine S15 ?_ | refine S16 ?_ | refine S19 ?_ | refine S20 ?_ | refine S21 ?_ | refine S22 ?_ | refine S23 ?_ | refine S25 ?_ | refine S26 ?_ | refine S32 ?_)
  refine CW.loopS (fun k : Nat => k ≤ xs.length) (fun k => [(0, pli xs), (1, .clo f cap), (7, pint xs.length), (8, pint k)]) (fun _ _ => True) (fun k => xs.length - k) 0 ⟨by omega, SLx, trivial⟩ ?_
  rintro k t hp hk _
  first | simp only [updS] | simp only [updL, Nat.reduceAdd]
  by_cases hk2 : k < xs.length
  · have hs := h k hk2
    repeat (first | refine S0 ?_ | refine S1 ?_ | refine S2 ?_ | refine S4 ?_ | refine S5 ?_ | refine S6 ?_ | refine S7 ?_ | refine S8 ?_ | refine S9 ?_ | refine S10 ?_ | refine S11 ?_ | refine S12 ?_ | refine S13 ?_ | refine S15 ?_ | refine S16 ?_ | refine S19 ?_ | refine S20 ?_ | refine S21 ?_ | refine S22 ?_ | refine S23 ?_ | refine S25 ?_ | refine S26 ?_ | refine S32 ?_)
    refine Scallv (args := pint (xs.getD k 0) :: cap) hs ?_ (hc := by simp only [PV.cl.clL, pint_cl, hcl, Bool.and_self])
    repeat (first | refine S0 ?_ | refine S1 ?_ | refine S2 ?_ | refine S4 ?_ | refine S5 ?_ | refine S6 ?_ | refine S7 ?_ | refine S8 ?_ | refine S9 ?_ | refine S10 ?_ | refine S11 ?_ | refine S12 ?_ | refine S13 ?_ | refine S15 ?_ | refine S16 ?_ | refine S19 ?_ | refine S20 ?_ | refine S21 ?_ | refine S22 ?_ | refine S23 ?_ | refine S25 ?_ | refine S26 ?_ | refine S32 ?_)
    exact ⟨k + 1, by omega, SLx, trivial, by omega⟩
  · repeat (first | refine S0 ?_ | refine S1 ?_ | refine S2 ?_ | refine S4 ?_ | refine S5 ?_ | refine S6 ?_ | refine S7 ?_ | refine S8 ?_ | refine S9 ?_ | refine S10 ?_ | refine S11 ?_ | refine S12 ?_ | refine S13 ?_ | refine S15 ?_ | refine S16 ?_ | refine S19 ?_ | refine S20 ?_ | refine S21 ?_ | refine S22 ?_ | refine S23 ?_ | refine S25 ?_ | refine S26 ?_ | refine S32 ?_)
    exact ⟨.inr rfl, .cl rfl⟩
set_option maxHeartbeats 2000000 in
set_option maxRecDepth 100000 in
theorem indexFunc_some {xs : List Int} {f : FuncId} {cap : List PV} (hx : xs.length ≤ 1000000) (hcl : PV.cl.clL cap = true) {m : Nat} (hm : m < xs.length) (h : ∀ k, k < m → SC Try.prog f (pint (xs.getD k 0) :: cap) (.sc (.bool false))) (h2 : SC Try.prog f (pint (xs.getD m 0) :: cap) (.sc (.bool true))) : SC Try.prog 69 [pli xs, .clo f cap] (pint m) := by
  refine SC.go {} tok mixed Try.func69 rfl rfl Try.ntmps69 rfl rfl (by kernel_rfl) ?_
  first | simp only [updS] | simp only [updL, Nat.reduceAdd]
  repeat (first | refine S0 ?_ | refine S1 ?_ | refine S2 ?_ | refine S4 ?_ | refine S5 ?_ | refine S6 ?_ | refine S7 ?_ | refine S8 ?_ | refine S9 ?_ | refine S10 ?_ | refine S11 ?_ | refine S12 ?_ | refine S13 ?_ | refine S15 ?_ | refine S16 ?_ | refine S19 ?_ | refine S20 ?_ | refine S21 ?_ | refine S22 ?_ | refine S23 ?_ | refine S25 ?_ | refine S26 ?_ | refine S32 ?_)
  refine CW.loopS (fun k : Nat => k ≤ m) (fun k => [(0, pli xs), (1, .clo f cap), (7, pint xs.length), (8, pint k)]) (fun _ _ => True) (fun k => xs.length - k) 0 ⟨by omega, SLx, trivial⟩ ?_
  rintro k t hp hk _
  first | simp only [updS] | simp only [updL, Nat.reduceAdd]
  by_cases hk2 : k < m
  · have hs := h k hk2
    repeat (first | refine S0 ?_ | refine S1 ?_ | refine S2 ?_ | refine S4 ?_ | refine S5 ?_ | refine S6 ?_ | refine S7 ?_ | refine S8 ?_ | refine S9 ?_ | refine S10 ?_ | refine S11 ?_ | refine S12 ?_ | refine S13 ?_ | refine S15 ?_ | refine S16 ?_ | refine S19 ?_ | refine S20 ?_ | refine S21 ?_ | refine S22 ?_ | refine S23 ?_ | refine S25 ?_ | refine S26 ?_ | refine S32 ?_)
    refine Scallv (args := pint (xs.getD k 0) :: cap) hs ?_ (hc := by simp only [PV.cl.clL, pint_cl, hcl, Bool.and_self])
    repeat (first | refine S0 ?_ | refine S1 ?_ | refine S2 ?_ | refine S4 ?_ | refine S5 ?_ | refine S6 ?_ | refine S7 ?_ | refine S8 ?_ | refine S9 ?_ | refine S10 ?_ | refine S11 ?_ | refine S12 ?_ | refine S13 ?_ | refine S15 ?_ | refine S16 ?_ | refine S19 ?_ | refine S20 ?_ | refine S21 ?_ | refine S22 ?_ | refine S23 ?_ | refine S25 ?_ | refine S26 ?_ | refine S32 ?_)
    exact ⟨k + 1, by omega, SLx, trivial, by omega⟩
  · obtain rfl : k = m := by omega
    repeat (first | refine S0 ?_ | refine S1 ?_ | refine S2 ?_ | refine S4 ?_ | refine S5 ?_ | refine S6 ?_ | refine S7 ?_ | refine S8 ?_ | refine S9 ?_ | refine S10 ?_ | refine S11 ?_ | refine S12 ?_ | refine S13 ?_ | refine S15 ?_ | refine S16 ?_ | refine S19 ?_ | refine S20 ?_ | refine S21 ?_ | refine S22 ?_ | refine S23 ?_ | refine S25 ?_ | refine S26 ?_ | refine S32 ?_)
    refine Scallv (args := pint (xs.getD k 0) :: cap) h2 ?_ (hc := by simp only [PV.cl.clL, pint_cl, hcl, Bool.and_self])
    repeat (first | refine S0 ?_ | refine S1 ?_ | refine S2 ?_ | refine S4 ?_ | refine S5 ?_ | refine S6 ?_ | refine S7 ?_ | refine S8 ?_ | refine S9 ?_ | refine S10 ?_ | refine S11 ?_ | refine S12 ?_ | refine S13 ?_ | refine S15 ?_ | refine S16 ?_ | refine S19 ?_ | refine S20 ?_ | refine S21 ?_ | refine S22 ?_ | refine S23 ?_ | refine S25 ?_ | refine S26 ?_ | refine S32 ?_)
    exact ⟨.inr rfl, .cl rfl⟩
set_option maxHeartbeats 2000000 in
set_option maxRecDepth 100000 in
theorem containsFunc_x {xs : List Int} {f : FuncId} {cap : List PV} {z : Int} {b : Bool} (hcl : PV.cl.clL cap = true) (h : SC Try.prog 69 [pli xs, .clo f cap] (pint z)) (hb : decide (0 ≤ z) = b) : SC Try.prog 53 [pli xs, .clo f cap] (.sc (.bool b)) := by
  refine SC.go {} tok mixed Try.func53 rfl rfl Try.ntmps53 rfl rfl (by kernel_rfl) ?_
  first | simp only [updS] | simp only [updL, Nat.reduceAdd]
  repeat (first | refine S0 ?_ | refine S1 ?_ | refine S2 ?_ | refine S4 ?_ | refine S5 ?_ | refine S6 ?_ | refine S7 ?_ | refine S8 ?_ | refine S9 ?_ | refine S10 ?_ | refine S11 ?_ | refine S12 ?_ | refine S13 ?_ | refine S15 ?_ | refine S16 ?_ | refine S19 ?_ | refine S20 ?_ | refine S21 ?_ | refine S22 ?_ | refine S23 ?_ | refine S25 ?_ | refine S26 ?_ | refine S32 ?_)
  refine Scall (args := [pli xs, .clo f cap]) h ?_ (hc := by simp only [PV.cl.clL, PV.cl, pli_cl, hcl, Bool.and_self])
  repeat (first | refine S0 ?_ | refine S1 ?_ | refine S2 ?_ | refine S4 ?_ | refine S5 ?_ | refine S6 ?_ | refine S7 ?_ | refine S8 ?_ | refine S9 ?_ | refine S10 ?_ | refine S11 ?_ | refine S12 ?_ | refine S13 ?_ | refine S15 ?_ | refine S16 ?_ | refine S19 ?_ | refine S20 ?_ | refine S21 ?_ | refine S22 ?_ | refine S23 ?_ | refine S25 ?_ | refine S26 ?_ | refine S32 ?_)
  rw [hb]
  exact ⟨.inr rfl, .cl rfl⟩
end Go.Proofs.Ytenoiklocdoemaa
