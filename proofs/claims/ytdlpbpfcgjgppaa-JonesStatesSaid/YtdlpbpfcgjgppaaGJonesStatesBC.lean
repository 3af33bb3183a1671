/- Facts and contracts that the claim uses. No condition of its own. -/
import Derived.Test.YtdlpbpfcgjgppaaGJonesStatesAY
set_option linter.unusedVariables false
set_option linter.unusedSimpArgs false
namespace Go.Proofs.Ytdlpbpfcgjgppaa
abbrev Tm := Int → Option Int
def tv (f : Tm) (e : Int) : Int := (f e).getD 0
def tplus (a b : Tm) (k : Int) : Tm := fun e => if (a e).isSome || (b e).isSome then some (tv a e + k * tv b e) else none
theorem tv_plus (a b : Tm) (k e : Int) : tv (tplus a b k) e = tv a e + k * tv b e := by
  unfold tv tplus tv
  cases ha : a e <;> cases hb : b e <;> simp
def lkp (ps : List (Int × Int)) : Tm := fun e => (ps.find? (fun y => y.1 == e)).map (·.2)
theorem lkp_nil : lkp [] = fun _ => none := rfl
theorem lkp_fresh {ps : List (Int × Int)} {k : Int} (h : ∀ y ∈ ps, y.1 ≠ k) : lkp ps k = none := by
  unfold lkp
  rw [Option.map_eq_none_iff, List.find?_eq_none]
  intro y hy
  simpa using h y hy
theorem lkp_snoc {ps : List (Int × Int)} {k c : Int} (h : ∀ y ∈ ps, y.1 ≠ k) : lkp (ps ++ [(k, c)]) = fun e => if e = k then some c else lkp ps e := by
  funext e
  by_cases he : e = k
  · subst he
    have h1 : ps.find? (fun y => y.1 == e) = none := List.find?_eq_none.2 (fun y hy => by simpa using h y hy)
    simp [lkp, List.find?_append, h1]
  · rw [if_neg he]
    unfold lkp
    rw [List.find?_append]
    cases h1 : ps.find? (fun y => y.1 == e) with
    | some y => simp
    | none => simp [List.find?_cons, show (k == e) = false from by simpa using fun hh : k = e => he hh.symm]
def Enum (f : Tm) (ps : List (Int × Int)) : Prop := (∀ y ∈ ps, f y.1 = some y.2) ∧ (ps.map (·.1)).Nodup
theorem Enum.nil (f : Tm) : Enum f [] := ⟨fun _ h => (by cases h), List.nodup_nil⟩
theorem Enum.snoc {f : Tm} {ps : List (Int × Int)} (h : Enum f ps) {k c : Int} (hk : f k = some c) (hf : ∀ y ∈ ps, y.1 ≠ k) : Enum f (ps ++ [(k, c)]) := by
  refine ⟨fun y hy => ?_, ?_⟩
  · rcases List.mem_append.1 hy with hy | hy
    · exact h.1 y hy
    · rw [List.mem_singleton] at hy; subst hy; exact hk
  · rw [List.map_append, List.nodup_append]
    refine ⟨h.2, by simp, fun a ha b hb => ?_⟩
    obtain ⟨y, hy, rfl⟩ := List.mem_map.1 ha
    simp at hb; subst hb
    exact hf y hy
theorem Enum.lkp {f : Tm} {ps : List (Int × Int)} (h : Enum f ps) {k c : Int} (hm : (k, c) ∈ ps) : Go.Proofs.Ytdlpbpfcgjgppaa.lkp ps k = some c := by
  unfold Go.Proofs.Ytdlpbpfcgjgppaa.lkp
  cases h1 : ps.find? (fun y => y.1 == k) with
  | none => exact absurd (List.find?_eq_none.1 h1 _ hm) (by simp)
  | some y =>
    have h2 := List.find?_some h1
    have h3 := List.mem_of_find?_eq_some h1
    have h4 := h.1 y h3
    have h5 := h.1 _ hm
    simp only [beq_iff_eq] at h2
    rw [h2] at h4
    simp only at h5
    rw [h5] at h4
    simpa using h4.symm
theorem Enum.full {f : Tm} {ps : List (Int × Int)} (h : Enum f ps) (hall : ∀ k c, f k = some c → (k, c) ∈ ps) : Go.Proofs.Ytdlpbpfcgjgppaa.lkp ps = f := by
  funext e
  cases he : f e with
  | some c => exact h.lkp (hall e c he)
  | none =>
    refine lkp_fresh (fun y hy hh => ?_)
    have := h.1 y hy
    rw [hh, he] at this; cases this
theorem nodup_bd : ∀ (n : Nat) (lo : Int) (l : List Int), l.Nodup → (∀ x ∈ l, lo ≤ x ∧ x < lo + n) → l.length ≤ n
  | 0, lo, l, _, h => by
    cases l with
    | nil => simp
    | cons x l => have := h x (by simp); omega
  | n + 1, lo, l, hn, h => by
    have h1 := nodup_bd n lo (l.erase (lo + n)) (hn.erase _) (fun x hx => by
      have h2 := h x (List.mem_of_mem_erase hx)
      have h3 : x ≠ lo + n := fun e => by
        subst e
        exact absurd hx (hn.not_mem_erase)
      omega)
    have h2 := List.length_erase (a := lo + n) (l := l)
    split at h2 <;> omega
theorem Enum.len {f : Tm} {ps : List (Int × Int)} (h : Enum f ps) {B : Nat} (hb : ∀ e, (f e).isSome = true → -(B : Int) ≤ e ∧ e ≤ B) : ps.length ≤ 2 * B + 1 := by
  have := nodup_bd (2 * B + 1) (-(B : Int)) (ps.map (·.1)) h.2 (fun x hx => by
    obtain ⟨y, hy, rfl⟩ := List.mem_map.1 hx
    have := hb y.1 (by rw [h.1 y hy]; rfl)
    omega)
  simpa using this
theorem tplus_none (a : Tm) (k : Int) : tplus a (fun _ => none) k = a := by
  funext e
  unfold tplus tv
  cases a e <;> simp
theorem tplus_step {a : Tm} {qs : List (Int × Int)} {k e c : Int} (h : ∀ y ∈ qs, y.1 ≠ e) : (fun y => if y = e then some ((tplus a (lkp qs) k e).getD 0 + k * c) else tplus a (lkp qs) k y) = tplus a (lkp (qs ++ [(e, c)])) k := by
  funext y
  rw [lkp_snoc h]
  by_cases hy : y = e
  · subst hy
    have h0 : lkp qs y = none := lkp_fresh h
    have := tv_plus a (lkp qs) k y
    rw [if_pos rfl]
    rw [show (tplus a (lkp qs) k y).getD 0 = tv (tplus a (lkp qs) k) y from rfl, this]
    unfold tplus tv
    rw [h0]
    simp
  · rw [if_neg hy]
    unfold tplus tv
    simp only [if_neg hy]
theorem lkp_step {qs : List (Int × Int)} {e c : Int} (h : ∀ y ∈ qs, y.1 ≠ e) : (fun y => if y = e then some ((lkp qs e).getD 0 + c) else lkp qs y) = lkp (qs ++ [(e, c)]) := by
  rw [lkp_snoc h]
  funext y
  rw [lkp_fresh h]
  simp
theorem tplus_put {a b1 : Tm} {k e c : Int} (h : b1 e = none) : (fun y => if y = e then some ((tplus a b1 k e).getD 0 + k * c) else tplus a b1 k y) = tplus a (fun y => if y = e then some c else b1 y) k := by
  funext y
  by_cases hy : y = e
  · subst hy
    have := tv_plus a b1 k y
    rw [if_pos rfl]
    rw [show (tplus a b1 k y).getD 0 = tv (tplus a b1 k) y from rfl, this]
    unfold tplus tv
    rw [h]
    simp
  · rw [if_neg hy]
    unfold tplus tv
    simp only [if_neg hy]
def shf (e : Int) (b : Tm) : Tm := fun x => b (x - e)
theorem shf_snoc {qs : List (Int × Int)} {e f d : Int} (h : ∀ y ∈ qs, y.1 ≠ f) : (fun y => if y = e + f then some d else shf e (lkp qs) y) = shf e (lkp (qs ++ [(f, d)])) := by
  funext y
  unfold shf
  rw [lkp_snoc h]
  by_cases hy : y = e + f
  · rw [if_pos hy]; exact (if_pos (by omega)).symm
  · rw [if_neg hy]; exact (if_neg (by omega)).symm
theorem shf_none (e : Int) : shf e (fun _ => none) = fun _ => none := rfl
def gM (b : Tm) (ps : List (Int × Int)) : Tm := fun x => if ps.any (fun y => (b (x - y.1)).isSome) then some ((ps.map fun y => y.2 * tv b (x - y.1)).sum) else none
theorem sum_zero {l : List Int} (h : ∀ x ∈ l, x = 0) : l.sum = 0 := by
  induction l with
  | nil => rfl
  | cons x l ih => rw [List.sum_cons, h x (by simp), ih (fun y hy => h y (by simp [hy]))]; rfl
theorem tv_gM (b : Tm) (ps : List (Int × Int)) (x : Int) : tv (gM b ps) x = (ps.map fun y => y.2 * tv b (x - y.1)).sum := by
  show (gM b ps x).getD 0 = _
  unfold gM
  split
  · rfl
  · rename_i h
    rw [Option.getD_none, sum_zero]
    intro z hz
    obtain ⟨y, hy, rfl⟩ := List.mem_map.1 hz
    have : (b (x - y.1)).isSome = false := by
      cases hb : (b (x - y.1)).isSome with
      | false => rfl
      | true => exact absurd (List.any_eq_true.2 ⟨y, hy, hb⟩) h
    cases hb : b (x - y.1) with
    | none => simp [tv, hb]
    | some v => rw [hb] at this; cases this
theorem gM_snoc (b : Tm) (ps : List (Int × Int)) (e c : Int) : gM b (ps ++ [(e, c)]) = tplus (gM b ps) (shf e b) c := by
  funext x
  have h1 := tv_gM b ps x
  have hs : (gM b ps x).isSome = ps.any (fun y => (b (x - y.1)).isSome) := by
    unfold gM
    split
    · rename_i h; rw [h]; rfl
    · rename_i h; rw [Bool.not_eq_true] at h; rw [h]; rfl
  unfold tplus
  rw [h1, hs]
  unfold gM
  rw [List.any_append, List.map_append, List.sum_append]
  simp only [List.any_cons, List.any_nil, Bool.or_false, List.map_cons, List.map_nil, List.sum_cons, List.sum_nil, Int.add_zero]
  rfl
theorem sum_perm {l l' : List Int} (h : l.Perm l') : l.sum = l'.sum := by
  induction h with
  | nil => rfl
  | cons x _ ih => simp [ih]
  | swap x y l => simp only [List.sum_cons]; omega
  | trans _ _ h1 h2 => rw [h1, h2]
theorem perm_in : ∀ (l m : List (Int × Int)), l.Nodup → (∀ x ∈ l, x ∈ m) → m.length ≤ l.length → l.Perm m
  | [], m, _, _, hl => by
    have : m = [] := List.eq_nil_of_length_eq_zero (by simpa using hl)
    subst this; exact List.Perm.refl _
  | x :: l, m, hd, hm, hl => by
    have hx := hm x (by simp)
    have hp := List.perm_cons_erase hx
    obtain ⟨hd1, hd2⟩ := List.nodup_cons.1 hd
    refine (List.Perm.cons x (perm_in l (m.erase x) hd2 (fun y hy => ?_) ?_)).trans hp.symm
    · refine (List.mem_erase_of_ne ?_).2 (hm y (by simp [hy]))
      rintro rfl; exact hd1 hy
    · rw [List.length_erase_of_mem hx]; simp at hl; omega
def Full (f : Tm) (ps : List (Int × Int)) : Prop := ∀ k c, f k = some c → (k, c) ∈ ps
theorem Enum.perm {f : Tm} {ps qs : List (Int × Int)} (h1 : Enum f ps) (h2 : Enum f qs) (f1 : Full f ps) (f2 : Full f qs) : ps.Perm qs := by
  have n1 : ps.Nodup := List.Pairwise.of_map _ (fun a b hab he => hab (by rw [he])) h1.2
  have n2 : qs.Nodup := List.Pairwise.of_map _ (fun a b hab he => hab (by rw [he])) h2.2
  have s1 : ∀ x ∈ ps, x ∈ qs := fun x hx => f2 x.1 x.2 (h1.1 x hx)
  have s2 : ∀ x ∈ qs, x ∈ ps := fun x hx => f1 x.1 x.2 (h2.1 x hx)
  rcases Nat.le_total qs.length ps.length with h | h
  · exact perm_in _ _ n1 s1 h
  · exact (perm_in _ _ n2 s2 h).symm
theorem gM_perm {b : Tm} {ps qs : List (Int × Int)} (h : ps.Perm qs) : gM b ps = gM b qs := by
  funext x
  unfold gM
  have e1 : ps.any (fun y => (b (x - y.1)).isSome) = qs.any (fun y => (b (x - y.1)).isSome) := by
    rw [Bool.eq_iff_iff, List.any_eq_true, List.any_eq_true]
    constructor
    · rintro ⟨y, h1, h2⟩; exact ⟨y, h.mem_iff.1 h1, h2⟩
    · rintro ⟨y, h1, h2⟩; exact ⟨y, h.mem_iff.2 h1, h2⟩
  rw [e1, sum_perm (h.map fun y => y.2 * tv b (x - y.1))]
noncomputable def tmul (a b : Tm) : Tm := @dite _ (∃ ps, Enum a ps ∧ Full a ps) (Classical.propDecidable _) (fun h => gM b (Classical.choose h)) (fun _ => fun _ => none)
theorem tmul_eq {a b : Tm} {ps : List (Int × Int)} (h1 : Enum a ps) (h2 : Full a ps) : tmul a b = gM b ps := by
  have hex : ∃ ps, Enum a ps ∧ Full a ps := ⟨ps, h1, h2⟩
  unfold tmul
  rw [dif_pos hex]
  obtain ⟨g1, g2⟩ := Classical.choose_spec hex
  exact gM_perm (g1.perm h1 g2 h2)
theorem canon_range {F : Int → Int} {low high : Int} (h1 : F low ≠ 0) (h2 : F high ≠ 0) (h3 : ∀ e, F e ≠ 0 → low ≤ e ∧ e ≤ high) {n : Nat} (hn : (n : Int) = high - low + 1) : cano F = (low, tab n (fun j => F (low + j))) := by
  have h4 := h3 low h1
  have h5 := h3 high h2
  refine cano_eq (.inr ⟨?_, ?_, ?_⟩) (fun e => ?_)
  · intro e; have := congrArg List.length e; simp at this; omega
  · simp only
    rw [tab_get (by omega)]; simpa using h1
  · simp only [tab_length]
    rw [tab_get (by omega), show low + ((n - 1 : Nat) : Int) = high by omega]; exact h2
  · exact congrFun (co_tab (F := F) (fun e he => by have := h3 e he; omega)) e
end Go.Proofs.Ytdlpbpfcgjgppaa

/- Facts and contracts that the claim uses. No condition of its own. -/
set_option linter.unusedVariables false
set_option linter.unusedSimpArgs false
namespace Go.Proofs.Ytdlpbpfcgjgppaa
open Go.RowKit
end Go.Proofs.Ytdlpbpfcgjgppaa

/- Facts and contracts that the claim uses. No condition of its own. -/
set_option linter.unusedVariables false
set_option linter.unusedSimpArgs false
namespace Go.Proofs.Ytdlpbpfcgjgppaa
open Go.RowKit
end Go.Proofs.Ytdlpbpfcgjgppaa

/- Facts and contracts that the claim uses. No condition of its own. -/
set_option linter.unusedVariables false
set_option linter.unusedSimpArgs false
namespace Go.Proofs.Ytdlpbpfcgjgppaa
open Go.RowKit
theorem Fz.agg2 {h : HP} {a b a' b' : PV} (h1 : Fz h a a') (h2 : Fz h b b') : Fz h (.agg [a, b]) (.agg [a', b']) :=
  .agg rfl (fun i hi => by
    match i, hi with
    | 0, _ => exact h1
    | 1, _ => exact h2
    | i + 2, hi => simp at hi; omega)
set_option maxHeartbeats 8000000 in
set_option maxRecDepth 100000 in
theorem same_s (p q : Po) : SC Try.prog 6 [ppo p, ppo q] (.sc (.bool (decide (p = q)))) := by
  obtain ⟨l1, c1⟩ := p
  obtain ⟨l2, c2⟩ := q
  refine SC.go {} tok mixed Try.func6 rfl rfl Try.ntmps6 rfl rfl (by kernel_rfl) ?_
  first | simp only [updS] | simp only [updL, Nat.reduceAdd]
  by_cases h1 : l1 = l2
  · repeat (first | refine S0 ?_ | refine S1 ?_ | refine S2 ?_ | refine S7 ?_ | refine S8 ?_ | refine S19 ?_ | refine S20 ?_ | refine S26 ?_ | refine S28 ?_ | refine S37 ?_ | refine S38 ?_ | refine S40 ?_ | refine S41 ?_ | refine S43 ?_ | refine S44 ?_)
    refine Scall (args := [pli c1, pli c2]) (equal_s c1 c2) ?_
    repeat (first | refine S0 ?_ | refine S1 ?_ | refine S2 ?_ | refine S7 ?_ | refine S8 ?_ | refine S19 ?_ | refine S20 ?_ | refine S26 ?_ | refine S28 ?_ | refine S37 ?_ | refine S38 ?_ | refine S40 ?_ | refine S41 ?_ | refine S43 ?_ | refine S44 ?_)
    rw [show decide ((l1, c1) = (l2, c2)) = decide (c1 = c2) by simp [h1]]
    exact ⟨.inr rfl, .cl rfl⟩
  · repeat (first | refine S0 ?_ | refine S1 ?_ | refine S2 ?_ | refine S7 ?_ | refine S8 ?_ | refine S19 ?_ | refine S20 ?_ | refine S26 ?_ | refine S28 ?_ | refine S37 ?_ | refine S38 ?_ | refine S40 ?_ | refine S41 ?_ | refine S43 ?_ | refine S44 ?_)
    rw [show decide ((l1, c1) = (l2, c2)) = false by simp [h1]]
    exact ⟨.inr rfl, .cl rfl⟩
def PI (f : Tm) (ps : List (Int × Int)) (low high : Int) (any : Bool) : Prop := (any = false ∧ low = 0 ∧ high = 0 ∧ ∀ y ∈ ps, y.2 = 0) ∨ (any = true ∧ (tv f low ≠ 0 ∧ low ≤ high) ∧ tv f high ≠ 0 ∧ ∀ y ∈ ps, y.2 ≠ 0 → low ≤ y.1 ∧ y.1 ≤ high)
theorem snoc_all {α : Type} {ps : List α} {x : α} {p : α → Prop} (h : ∀ y ∈ ps, p y) (hx : p x) : ∀ y ∈ ps ++ [x], p y := fun y hy => by
  rcases List.mem_append.1 hy with hy | hy
  · exact h y hy
  · rw [List.mem_singleton] at hy; subst hy; exact hx
set_option maxHeartbeats 8000000 in
set_option maxRecDepth 100000 in
theorem poly_s (f : Tm) (B : Nat) (hB : B ≤ 1000000) (hf : ∀ e, (f e).isSome = true → -(B : Int) ≤ e ∧ e ≤ B) : SC Try.prog 11 [.fmap (mi f)] (ppo (cano (tv f))) := by
  refine SC.go {} tok mixed Try.func11 rfl rfl Try.ntmps11 rfl rfl (by kernel_rfl) ?_
  first | simp only [updS] | simp only [updL, Nat.reduceAdd]
  repeat (first | refine S0 ?_ | refine S1 ?_ | refine S2 ?_ | refine S4 ?_ | refine S5 ?_ | refine S6 ?_ | refine S7 ?_ | refine S8 ?_ | refine S9 ?_ | refine S10 ?_ | refine S11 ?_ | refine S13 ?_ | refine S15 ?_ | refine S16 ?_ | refine S19 ?_ | refine S20 ?_ | refine S21 ?_ | refine S22 ?_ | refine S28 ?_ | refine S30 ?_ | refine S31 ?_ | refine S34 ?_ | refine S36 ?_ | refine S37 ?_ | refine S38 ?_ | refine S40 ?_ | refine S41 ?_ | refine S45 ?_ | refine S46 ?_ | refine S48 ?_ | refine S49 ?_ | refine S63 ?_ | refine S64 ?_ | refine S65 ?_ | refine S66 ?_ | refine S68 ?_ | refine S69 ?_ | refine S83 ?_ | refine S85 ?_ | refine S87 ?_)
  refine CW.loopS (fun i : List (Int × Int) × Int × Int × Bool => Enum f i.1 ∧ PI f i.1 i.2.1 i.2.2.1 i.2.2.2) (fun i => [(0, .fmap (mi f)), (2, .ptr 1 0), (3, pint i.2.1), (4, pint i.2.2.1), (5, .sc (.bool i.2.2.2)), (11, .itr 3)]) (fun i hp => hp.next = 2 ∧ hp.blk 1 = some [pint 0, .lst true 0 0 []] ∧ hp.sp 3 = some (.iter (mi f) (pvs i.1))) (fun i => 2 * B + 1 - i.1.length) ([], 0, 0, false) ⟨⟨.nil f, .inl ⟨rfl, rfl, rfl, fun _ h => (by cases h)⟩⟩, SLx, rfl, ?_⟩ ?_
  · exact (by (try dsimp only); repeat' (first | exact HBx | exact SBx | refine And.intro ?_ ?_))
  rintro ⟨ps, low, high, any⟩ t h ⟨hE, hI⟩ ⟨hN, b1, h3⟩
  simp only at hE hI h3
  first | simp only [updS] | simp only [updL, Nat.reduceAdd]
  refine CW.nextI rfl h3 ?_ ?_
  · intro hall
    have hval : ∀ e, tv f e ≠ 0 → (e, tv f e) ∈ ps := fun e he => by
      unfold tv at he ⊢
      cases hc : f e with
      | none => rw [hc] at he; exact absurd rfl he
      | some c => exact hall e c hc
    rcases hI with ⟨rfl, rfl, rfl, hz⟩ | ⟨rfl, ⟨hlo, hlohi⟩, hhi, hin⟩
    · have h0 : ∀ e, tv f e = 0 := fun e => Classical.byContradiction fun he => he (hz _ (hval e he))
      repeat (first | refine S0 ?_ | refine S1 ?_ | refine S2 ?_ | refine S4 ?_ | refine S5 ?_ | refine S6 ?_ | refine S7 ?_ | refine S8 ?_ | refine S9 ?_ | refine S10 ?_ | refine S11 ?_ | refine S13 ?_ | refine S15 ?_ | refine S16 ?_ | refine S19 ?_ | refine S20 ?_ | refine S21 ?_ | refine S22 ?_ | refine S28 ?_ | refine S30 ?_ | refine S31 ?_ | refine S34 ?_ | refine S36 ?_ | refine S37 ?_ | refine S38 ?_ | refine S40 ?_ | refine S41 ?_ | refine S45 ?_ | refine S46 ?_ | refine S48 ?_ | refine S49 ?_ | refine S63 ?_ | refine S64 ?_ | refine S65 ?_ | refine S66 ?_ | refine S68 ?_ | refine S69 ?_ | refine S83 ?_ | refine S85 ?_ | refine S87 ?_)
      rw [cano_zero h0]
      exact ⟨.inr rfl, FR.cell1 rfl HBx rfl rfl (.nrm rfl)⟩
    · have hin2 : ∀ e, tv f e ≠ 0 → low ≤ e ∧ e ≤ high := fun e he => hin _ (hval e he) he
      have hbd : ∀ e, tv f e ≠ 0 → -(B : Int) ≤ e ∧ e ≤ B := fun e he => hf e (by
        unfold tv at he
        cases hc : f e with
        | none => rw [hc] at he; exact absurd rfl he
        | some c => rfl)
      have hb1 := hbd low hlo
      have hb2 := hbd high hhi
      have hlh := hin2 low hlo
      have et : h.tok true = 5 := by rw [HP.tokT, hN]
      repeat (first | refine S0 ?_ | refine S1 ?_ | refine S2 ?_ | refine S4 ?_ | refine S5 ?_ | refine S6 ?_ | refine S7 ?_ | refine S8 ?_ | refine S9 ?_ | refine S10 ?_ | refine S11 ?_ | refine S13 ?_ | refine S15 ?_ | refine S16 ?_ | refine S19 ?_ | refine S20 ?_ | refine S21 ?_ | refine S22 ?_ | refine S28 ?_ | refine S30 ?_ | refine S31 ?_ | refine S34 ?_ | refine S36 ?_ | refine S37 ?_ | refine S38 ?_ | refine S40 ?_ | refine S41 ?_ | refine S45 ?_ | refine S46 ?_ | refine S48 ?_ | refine S49 ?_ | refine S63 ?_ | refine S64 ?_ | refine S65 ?_ | refine S66 ?_ | refine S68 ?_ | refine S69 ?_ | refine S83 ?_ | refine S85 ?_ | refine S87 ?_)
      refine CW.loopS (fun e : Int => low ≤ e ∧ e ≤ high + 1) (fun e => [(0, .fmap (mi f)), (2, .ptr 1 0), (4, pint high), (8, .ptr 5 0), (9, pint e)])
        (fun e hp => hp.blk 1 = some [pint 0, .lst true 0 0 []] ∧ (e = low → hp.blk 5 = some [pint low, .lst true 0 0 []]) ∧ (e ≠ low → ∃ tk, tk % 2 = 0 ∧ hp.blk 5 = some [pint low, .ref tk 0 1 (e - low).toNat] ∧ hp.blk tk = some (ints (tab (e - low).toNat (fun j => tv f (low + j))))))
        (fun e => (high + 1 - e).toNat) low ⟨by omega, ?_, ?_⟩ ?_
      · rw [et]; exact SLx
      · dsimp only
        refine ⟨HBx, fun _ => ?_, fun hne => absurd rfl hne⟩
        rw [← et]; exact HBx
      clear b1 h3 hN et t h
      rintro e t h ⟨he1, he2⟩ ⟨b1, h5, h6⟩
      first | simp only [updS] | simp only [updL, Nat.reduceAdd]
      by_cases hle : e ≤ high
      · by_cases h0 : e = low
        · have h5 := h5 h0
          subst h0
          repeat (first | refine S0 ?_ | refine S1 ?_ | refine S2 ?_ | refine S4 ?_ | refine S5 ?_ | refine S6 ?_ | refine S7 ?_ | refine S8 ?_ | refine S9 ?_ | refine S10 ?_ | refine S11 ?_ | refine S13 ?_ | refine S15 ?_ | refine S16 ?_ | refine S19 ?_ | refine S20 ?_ | refine S21 ?_ | refine S22 ?_ | refine S28 ?_ | refine S30 ?_ | refine S31 ?_ | refine S34 ?_ | refine S36 ?_ | refine S37 ?_ | refine S38 ?_ | refine S40 ?_ | refine S41 ?_ | refine S45 ?_ | refine S46 ?_ | refine S48 ?_ | refine S49 ?_ | refine S63 ?_ | refine S64 ?_ | refine S65 ?_ | refine S66 ?_ | refine S68 ?_ | refine S69 ?_ | refine S83 ?_ | refine S85 ?_ | refine S87 ?_)
          refine ⟨e + 1, by omega, SLx, ⟨HBx, fun hh => by omega, fun _ => ⟨h.tok false, HP.tok_even _, ?_, ?_⟩⟩, by omega⟩
          · rw [show (e + 1 - e).toNat = 1 by omega]; exact HBx
          · rw [show (e + 1 - e).toNat = 1 by omega, show tab 1 (fun j => tv f (e + j)) = [(f e).getD 0] by simp [tab, tv]]; exact HBx
        · obtain ⟨tk, hev, h5, h7⟩ := h6 h0
          obtain ⟨m, hm⟩ : ∃ m : Nat, (e - low).toNat = m := ⟨_, rfl⟩
          rw [hm] at h5 h7
          have hm2 : m ≤ 3000000 := by omega
          obtain ⟨zs, hzs⟩ : ∃ zs, zs = tab m (fun j => tv f (low + j)) := ⟨_, rfl⟩
          rw [← hzs] at h7
          have hzl : zs.length = m := by rw [hzs, tab_length]
          have hs : zs ++ [(f e).getD 0] = tab (m + 1) (fun j => tv f (low + j)) := by
            rw [hzs]
            unfold tab
            rw [List.range_succ, List.map_append, List.map_singleton, show low + (m : Int) = e by omega]
            rfl
          repeat (first | refine S0 ?_ | refine S1 ?_ | refine S2 ?_ | refine S4 ?_ | refine S5 ?_ | refine S6 ?_ | refine S7 ?_ | refine S8 ?_ | refine S9 ?_ | refine S10 ?_ | refine S11 ?_ | refine S13 ?_ | refine S15 ?_ | refine S16 ?_ | refine S19 ?_ | refine S20 ?_ | refine S21 ?_ | refine S22 ?_ | refine S28 ?_ | refine S30 ?_ | refine S31 ?_ | refine S34 ?_ | refine S36 ?_ | refine S37 ?_ | refine S38 ?_ | refine S40 ?_ | refine S41 ?_ | refine S45 ?_ | refine S46 ?_ | refine S48 ?_ | refine S49 ?_ | refine S63 ?_ | refine S64 ?_ | refine S65 ?_ | refine S66 ?_ | refine S68 ?_ | refine S69 ?_ | refine S83 ?_ | refine S85 ?_ | refine S87 ?_)
          refine ⟨e + 1, by omega, SLx, ⟨HBx, fun hh => by omega, fun _ => ⟨h.tok false, HP.tok_even _, ?_, ?_⟩⟩, by omega⟩
          · rw [show (e + 1 - low).toNat = m + 1 by omega]; exact HBx
          · rw [show (e + 1 - low).toNat = m + 1 by omega, ← hs]; exact HBx
      · obtain ⟨tk, hev, h5, h7⟩ := h6 (by omega)
        repeat (first | refine S0 ?_ | refine S1 ?_ | refine S2 ?_ | refine S4 ?_ | refine S5 ?_ | refine S6 ?_ | refine S7 ?_ | refine S8 ?_ | refine S9 ?_ | refine S10 ?_ | refine S11 ?_ | refine S13 ?_ | refine S15 ?_ | refine S16 ?_ | refine S19 ?_ | refine S20 ?_ | refine S21 ?_ | refine S22 ?_ | refine S28 ?_ | refine S30 ?_ | refine S31 ?_ | refine S34 ?_ | refine S36 ?_ | refine S37 ?_ | refine S38 ?_ | refine S40 ?_ | refine S41 ?_ | refine S45 ?_ | refine S46 ?_ | refine S48 ?_ | refine S49 ?_ | refine S63 ?_ | refine S64 ?_ | refine S65 ?_ | refine S66 ?_ | refine S68 ?_ | refine S69 ?_ | refine S83 ?_ | refine S85 ?_ | refine S87 ?_)
        rw [canon_range (n := (e - low).toNat) hlo hhi hin2 (by omega)]
        refine ⟨.inr rfl, FR.cell1 rfl HBx rfl rfl (Fz.agg2 (.cl rfl) (Fz.refI HBx (by rw [tab_length]) rfl))⟩
  · intro e c hc hfr
    have hE2 := hE.snoc hc hfr
    have hl := hE2.len hf
    have htv : tv f e = c := by unfold tv; rw [hc]; rfl
    simp only [List.length_append, List.length_cons, List.length_nil] at hl
    have hlen : ∀ (x : Int × Int), 2 * B + 1 - (ps ++ [x]).length < 2 * B + 1 - ps.length := fun x => by simp; omega
    by_cases c0 : c = 0
    · repeat (first | refine S0 ?_ | refine S1 ?_ | refine S2 ?_ | refine S4 ?_ | refine S5 ?_ | refine S6 ?_ | refine S7 ?_ | refine S8 ?_ | refine S9 ?_ | refine S10 ?_ | refine S11 ?_ | refine S13 ?_ | refine S15 ?_ | refine S16 ?_ | refine S19 ?_ | refine S20 ?_ | refine S21 ?_ | refine S22 ?_ | refine S28 ?_ | refine S30 ?_ | refine S31 ?_ | refine S34 ?_ | refine S36 ?_ | refine S37 ?_ | refine S38 ?_ | refine S40 ?_ | refine S41 ?_ | refine S45 ?_ | refine S46 ?_ | refine S48 ?_ | refine S49 ?_ | refine S63 ?_ | refine S64 ?_ | refine S65 ?_ | refine S66 ?_ | refine S68 ?_ | refine S69 ?_ | refine S83 ?_ | refine S85 ?_ | refine S87 ?_)
      refine ⟨(ps ++ [(e, c)], low, high, any), ⟨hE2, ?_⟩, SLx, ⟨hN, HBx, SBx⟩, hlen _⟩
      rcases hI with ⟨g1, g2, g3, g4⟩ | ⟨g1, g2, g3, g4⟩
      · exact .inl ⟨g1, g2, g3, snoc_all g4 c0⟩
      · exact .inr ⟨g1, g2, g3, snoc_all g4 (fun hh => absurd c0 hh)⟩
    · rcases hI with ⟨rfl, rfl, rfl, g4⟩ | ⟨rfl, ⟨g2, g5⟩, g3, g4⟩
      · repeat (first | refine S0 ?_ | refine S1 ?_ | refine S2 ?_ | refine S4 ?_ | refine S5 ?_ | refine S6 ?_ | refine S7 ?_ | refine S8 ?_ | refine S9 ?_ | refine S10 ?_ | refine S11 ?_ | refine S13 ?_ | refine S15 ?_ | refine S16 ?_ | refine S19 ?_ | refine S20 ?_ | refine S21 ?_ | refine S22 ?_ | refine S28 ?_ | refine S30 ?_ | refine S31 ?_ | refine S34 ?_ | refine S36 ?_ | refine S37 ?_ | refine S38 ?_ | refine S40 ?_ | refine S41 ?_ | refine S45 ?_ | refine S46 ?_ | refine S48 ?_ | refine S49 ?_ | refine S63 ?_ | refine S64 ?_ | refine S65 ?_ | refine S66 ?_ | refine S68 ?_ | refine S69 ?_ | refine S83 ?_ | refine S85 ?_ | refine S87 ?_)
        refine ⟨(ps ++ [(e, c)], e, e, true), ⟨hE2, .inr ⟨rfl, ⟨by rw [htv]; exact c0, Int.le_refl _⟩, by rw [htv]; exact c0, snoc_all (fun y hy hh => absurd (g4 y hy) hh) (fun _ => ⟨Int.le_refl _, Int.le_refl _⟩)⟩⟩, SLx, ⟨hN, HBx, SBx⟩, hlen _⟩
      · by_cases d1 : e < low
        · have d2 : ¬ high < e := by omega
          repeat (first | refine S0 ?_ | refine S1 ?_ | refine S2 ?_ | refine S4 ?_ | refine S5 ?_ | refine S6 ?_ | refine S7 ?_ | refine S8 ?_ | refine S9 ?_ | refine S10 ?_ | refine S11 ?_ | refine S13 ?_ | refine S15 ?_ | refine S16 ?_ | refine S19 ?_ | refine S20 ?_ | refine S21 ?_ | refine S22 ?_ | refine S28 ?_ | refine S30 ?_ | refine S31 ?_ | refine S34 ?_ | refine S36 ?_ | refine S37 ?_ | refine S38 ?_ | refine S40 ?_ | refine S41 ?_ | refine S45 ?_ | refine S46 ?_ | refine S48 ?_ | refine S49 ?_ | refine S63 ?_ | refine S64 ?_ | refine S65 ?_ | refine S66 ?_ | refine S68 ?_ | refine S69 ?_ | refine S83 ?_ | refine S85 ?_ | refine S87 ?_)
          refine ⟨(ps ++ [(e, c)], e, high, true), ⟨hE2, .inr ⟨rfl, ⟨by rw [htv]; exact c0, by dsimp only; omega⟩, g3, snoc_all (fun y hy hh => by have := g4 y hy hh; dsimp only; omega) (fun _ => by dsimp only; omega)⟩⟩, SLx, ⟨hN, HBx, SBx⟩, hlen _⟩
        · by_cases d2 : high < e
          · repeat (first | refine S0 ?_ | refine S1 ?_ | refine S2 ?_ | refine S4 ?_ | refine S5 ?_ | refine S6 ?_ | refine S7 ?_ | refine S8 ?_ | refine S9 ?_ | refine S10 ?_ | refine S11 ?_ | refine S13 ?_ | refine S15 ?_ | refine S16 ?_ | refine S19 ?_ | refine S20 ?_ | refine S21 ?_ | refine S22 ?_ | refine S28 ?_ | refine S30 ?_ | refine S31 ?_ | refine S34 ?_ | refine S36 ?_ | refine S37 ?_ | refine S38 ?_ | refine S40 ?_ | refine S41 ?_ | refine S45 ?_ | refine S46 ?_ | refine S48 ?_ | refine S49 ?_ | refine S63 ?_ | refine S64 ?_ | refine S65 ?_ | refine S66 ?_ | refine S68 ?_ | refine S69 ?_ | refine S83 ?_ | refine S85 ?_ | refine S87 ?_)
            refine ⟨(ps ++ [(e, c)], low, e, true), ⟨hE2, .inr ⟨rfl, ⟨g2, by dsimp only; omega⟩, by rw [htv]; exact c0, snoc_all (fun y hy hh => by have := g4 y hy hh; dsimp only; omega) (fun _ => by dsimp only; omega)⟩⟩, SLx, ⟨hN, HBx, SBx⟩, hlen _⟩
          · repeat (first | refine S0 ?_ | refine S1 ?_ | refine S2 ?_ | refine S4 ?_ | refine S5 ?_ | refine S6 ?_ | refine S7 ?_ | refine S8 ?_ | refine S9 ?_ | refine S10 ?_ | refine S11 ?_ | refine S13 ?_ | refine S15 ?_ | refine S16 ?_ | refine S19 ?_ | refine S20 ?_ | refine S21 ?_ | refine S22 ?_ | refine S28 ?_ | refine S30 ?_ | refine S31 ?_ | refine S34 ?_ | refine S36 ?_ | refine S37 ?_ | refine S38 ?_ | refine S40 ?_ | refine S41 ?_ | refine S45 ?_ | refine S46 ?_ | refine S48 ?_ | refine S49 ?_ | refine S63 ?_ | refine S64 ?_ | refine S65 ?_ | refine S66 ?_ | refine S68 ?_ | refine S69 ?_ | refine S83 ?_ | refine S85 ?_ | refine S87 ?_)
            refine ⟨(ps ++ [(e, c)], low, high, true), ⟨hE2, .inr ⟨rfl, ⟨g2, g5⟩, g3, snoc_all g4 (fun _ => by dsimp only; omega)⟩⟩, SLx, ⟨hN, HBx, SBx⟩, hlen _⟩
end Go.Proofs.Ytdlpbpfcgjgppaa

/- Facts and contracts that the claim uses. No condition of its own. -/
set_option linter.unusedVariables false
set_option linter.unusedSimpArgs false
namespace Go.Proofs.Ytdlpbpfcgjgppaa
end Go.Proofs.Ytdlpbpfcgjgppaa

/- Facts and contracts that the claim uses. No condition of its own. -/
set_option linter.unusedVariables false
set_option linter.unusedSimpArgs false
namespace Go.Proofs.Ytdlpbpfcgjgppaa
open Go.RowKit
theorem Fz.pair {h : HP} {a b a' b' : PV} (h1 : Fz h a a') (h2 : Fz h b b') : Fz h (.tup [a, b]) (.tup [a', b']) :=
  .tup rfl (fun i hi => by
    match i, hi with
    | 0, _ => exact h1
    | 1, _ => exact h2
    | i + 2, h => simp at h; omega)
def okc (x : Int) : Prop := -100000000 ≤ x ∧ x ≤ 100000000
instance (x : Int) : Decidable (okc x) := by unfold okc; exact inferInstance
instance (p : Po) : Decidable (canon p) := by unfold canon; exact inferInstance
end Go.Proofs.Ytdlpbpfcgjgppaa

/- Facts and contracts that the claim uses. No condition of its own. -/
set_option linter.unusedVariables false
set_option linter.unusedSimpArgs false
namespace Go.Proofs.Ytdlpbpfcgjgppaa
open Go.RowKit
def cvn (a b : Po) (i : Nat) (e : Int) : Int := ((List.range i).map fun r => a.2.getD r 0 * co b (e - a.1 - r)).sum
def pmul (a b : Po) (e : Int) : Int := cvn a b a.2.length e
theorem cvn_succ (a b : Po) (i : Nat) (e : Int) : cvn a b (i + 1) e = cvn a b i e + a.2.getD i 0 * co b (e - a.1 - i) := by
  unfold cvn
  rw [List.range_succ, List.map_append, List.sum_append]; simp
theorem cvn_supp {a b : Po} {i : Nat} (hi : i ≤ a.2.length) {e : Int} (h : cvn a b i e ≠ 0) : a.1 + b.1 ≤ e ∧ e < a.1 + b.1 + (a.2.length + b.2.length - 1 : Nat) := by
  apply Classical.byContradiction; intro hc
  apply h
  unfold cvn
  apply sum_zero
  intro z hz
  obtain ⟨r, hr, rfl⟩ := List.mem_map.1 hz
  rw [List.mem_range] at hr
  by_cases h1 : co b (e - a.1 - r) = 0
  · rw [h1, Int.mul_zero]
  · have := co_in h1; omega
end Go.Proofs.Ytdlpbpfcgjgppaa
