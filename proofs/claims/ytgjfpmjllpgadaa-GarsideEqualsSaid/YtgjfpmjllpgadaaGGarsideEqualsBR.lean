/- Positive words as lists of crossings: equal words end at one list, and it is the list of their factors. Plain facts: nothing of the program is here. -/
import Derived.Test.YtgjfpmjllpgadaaGGarsideEqualsBQ
set_option linter.unusedVariables false
set_option linter.unusedSimpArgs false
namespace Go.Proofs.Ytgjfpmjllpgadaa

/-- the crossing of a letter -/
def trL (x : Int) : Nat → Nat := vsw id (x.natAbs - 1)
def lsL (w : List Int) : List (Nat → Nat) := w.map trL
def posw (n : Int) (w : List Int) : Prop := ∀ x ∈ w, 1 ≤ x ∧ x < n
theorem trL_isP {n : Nat} {x : Int} (h : 1 ≤ x ∧ x < n) : IsP (trL x) n := vsw_isP (id_isP n) (by omega)
theorem lsL_isP {n : Nat} {w : List Int} (h : posw n w) : ∀ f ∈ lsL w, IsP f n := fun f hf => by
  obtain ⟨x, hx, rfl⟩ := List.mem_map.1 hf
  exact trL_isP (h x hx)
theorem posw_cons {n x : Int} {w : List Int} : posw n (x :: w) ↔ (1 ≤ x ∧ x < n) ∧ posw n w := ⟨fun h => ⟨h x (by simp), fun z hz => h z (by simp [hz])⟩, fun h z hz => by
  rcases List.mem_cons.1 hz with rfl | hz
  · exact h.1
  · exact h.2 z hz⟩
theorem PE.ok {n : Int} {a b : List Int} (h : PE n a b) : posw n a ↔ posw n b := by
  induction h with
  | refl _ => exact Iff.rfl
  | symm _ ih => exact ih.symm
  | trans _ _ ih1 ih2 => exact ih1.trans ih2
  | consI x _ ih => rw [posw_cons, posw_cons, ih]
  | farI _ _ _ t => simp only [posw_cons]; exact ⟨fun h => ⟨h.2.1, h.1, h.2.2⟩, fun h => ⟨h.2.1, h.1, h.2.2⟩⟩
  | brdI _ _ t => simp only [posw_cons]; exact ⟨fun h => ⟨h.2.1, h.1, h.2.1, h.2.2.2⟩, fun h => ⟨h.2.1, h.1, h.2.1, h.2.2.2⟩⟩
theorem psw_self {v : Nat} : psw (vsw id v) v = id := by
  funext j
  exact tau_tau (n := v + 2) (by omega)
theorem tr_desc {v : Nat} : vsw id v (v + 1) < vsw id v v := by
  show tau (v + 1) (v + 1) < tau (v + 1) v
  rw [tau_at, tau_at1]; omega
theorem Jn.cons {n : Nat} (x : Nat → Nat) {a b : List (Nat → Nat)} (h : Jn n a b) : Jn n (x :: a) (x :: b) := by
  obtain ⟨d, k1, k2⟩ := h
  exact ⟨x :: d, k1.cons x, k2.cons x⟩
theorem jn_pe {n : Nat} {a b : List Int} (h : PE n a b) : posw n a → Jn n (lsL a) (lsL b) := by
  induction h with
  | refl a => exact fun _ => ⟨_, .refl _, .refl _⟩
  | symm h ih =>
    intro ok
    obtain ⟨d, k1, k2⟩ := ih (h.ok.2 ok)
    exact ⟨d, k2, k1⟩
  | trans h1 h2 ih1 ih2 => exact fun ok => (ih1 ok).trans (ih2 (h1.ok.1 ok)) (lsL_isP (h1.ok.1 ok))
  | consI x _ ih => exact fun ok => (ih (posw_cons.1 ok).2).cons _
  | farI hi hij hj t =>
    rename_i i j
    intro _
    obtain ⟨c, rfl⟩ : ∃ c : Nat, i = (c : Int) + 1 := ⟨(i - 1).toNat, by omega⟩
    obtain ⟨d, rfl⟩ : ∃ d : Nat, j = (d : Int) + 1 := ⟨(j - 1).toNat, by omega⟩
    have e1 : trL ((c : Int) + 1) = vsw id c := by unfold trL; congr 1
    have e2 : trL ((d : Int) + 1) = vsw id d := by unfold trL; congr 1
    simp only [lsL, List.map_cons, e1, e2]
    have m1 : CanMove n (vsw id c) (vsw id d) d := ⟨by omega, tr_desc, d, d + 1, by omega, by omega, tau_ot (by show d ≠ c; omega) (by show d ≠ c + 1; omega), tau_ot (by show d + 1 ≠ c; omega) (by show d + 1 ≠ c + 1; omega)⟩
    have m2 : CanMove n (vsw id d) (vsw id c) c := ⟨by omega, tr_desc, c, c + 1, by omega, by omega, tau_ot (by show c ≠ d; omega) (by show c ≠ d + 1; omega), tau_ot (by show c + 1 ≠ d; omega) (by show c + 1 ≠ d + 1; omega)⟩
    refine ⟨_, .one (.here _ m1), ?_⟩
    have e : vsw (vsw id c) d = vsw (vsw id d) c := vsw_far (by omega)
    have := Mvs.one (Mv.here (List.map trL t) m2)
    rw [psw_self] at this ⊢
    rw [e]
    exact this
  | brdI hi hn2 t =>
    rename_i i
    intro _
    obtain ⟨c, rfl⟩ : ∃ c : Nat, i = (c : Int) + 1 := ⟨(i - 1).toNat, by omega⟩
    have e1 : trL ((c : Int) + 1) = vsw id c := by unfold trL; congr 1
    have e2 : trL ((c : Int) + 1 + 1) = vsw id (c + 1) := by unfold trL; congr 1
    simp only [lsL, List.map_cons, e1, e2]
    have im : ∀ v, v + 1 < n → CanMove n id (vsw id v) v := fun v hv => ⟨hv, tr_desc, v, v + 1, by omega, hv, rfl, rfl⟩
    have m1 : CanMove n (vsw id c) (vsw id (c + 1)) (c + 1) := ⟨by omega, tr_desc, c, c + 2, by omega, by omega, tau_at, tau_ot (by show c + 2 ≠ c; omega) (by show c + 2 ≠ c + 1; omega)⟩
    have m3 : CanMove n (vsw (vsw id c) (c + 1)) (vsw id c) c := ⟨by omega, tr_desc, c + 1, c + 2, by omega, by omega, by
      show tau (c + 1 + 1) (tau (c + 1) (c + 1)) = c
      rw [tau_at1, tau_ot (by omega) (by omega)], by
      show tau (c + 1 + 1) (tau (c + 1) (c + 2)) = c + 1
      rw [tau_ot (i := c) (by omega) (by omega), show c + 2 = c + 1 + 1 by omega, tau_at1]⟩
    have k1 : CanMove n (vsw id (c + 1)) (vsw id c) c := ⟨by omega, tr_desc, c, c + 2, by omega, by omega, tau_ot (by show c ≠ c + 1; omega) (by show c ≠ c + 1 + 1; omega), by
      show tau (c + 1 + 1) (c + 2) = c + 1
      rw [show c + 2 = c + 1 + 1 by omega, tau_at1]⟩
    have k3 : CanMove n (vsw (vsw id (c + 1)) c) (vsw id (c + 1)) (c + 1) := ⟨by omega, tr_desc, c, c + 1, by omega, by omega, by
      show tau (c + 1) (tau (c + 1 + 1) c) = c + 1
      rw [tau_ot (i := c + 1) (by omega) (by omega), tau_at], by
      show tau (c + 1) (tau (c + 1 + 1) (c + 1)) = c + 1 + 1
      rw [tau_at, tau_ot (by omega) (by omega)]⟩
    have s1 := Mv.here (vsw id c :: List.map trL t) m1
    have s2 := Mv.there (vsw (vsw id c) (c + 1)) (Mv.here (List.map trL t) (im c (by omega)))
    have s3 := Mv.here (id :: List.map trL t) m3
    have t1 := Mv.here (vsw id (c + 1) :: List.map trL t) k1
    have t2 := Mv.there (vsw (vsw id (c + 1)) c) (Mv.here (List.map trL t) (im (c + 1) (by omega)))
    have t3 := Mv.here (id :: List.map trL t) k3
    rw [psw_self] at s1 s2 s3 t1 t2 t3
    have e : vsw (vsw (vsw id c) (c + 1)) c = vsw (vsw (vsw id (c + 1)) c) (c + 1) := vsw_braid
    rw [← e] at t3
    exact ⟨_, .head s1 (.head s2 (.one s3)), .head t1 (.head t2 (.one t3))⟩
/-- a crossing slides over ones -/
theorem slide {n v : Nat} (hv : v + 1 < n) (R : List (Nat → Nat)) : ∀ z : Nat, Mvs n (List.replicate z id ++ vsw id v :: R) (vsw id v :: (List.replicate z id ++ R))
  | 0 => .refl _
  | z + 1 => by
    refine (Mvs.cons id (slide hv R z)).trans ?_
    have := Mv.here (n := n) (List.replicate z id ++ R) (show CanMove n id (vsw id v) v from ⟨hv, tr_desc, v, v + 1, by omega, hv, rfl, rfl⟩)
    rw [psw_self] at this
    exact .one this
theorem rep_cons (z : Nat) (R : List (Nat → Nat)) : id :: (List.replicate z id ++ R) = List.replicate (z + 1) id ++ R := rfl
/-- the word of a permutation goes into the permutation before it -/
theorem word_in {n : Nat} (hn : n ≤ 6) : ∀ (N : Nat) (f g : Nat → Nat) (z : Nat) (R : List (Nat → Nat)), IsP f n → IsP g n → mu (tabN n f) ≤ N → (∀ x y, x < y → y < n → g y < g x → f (g y) < f (g x)) →
    ∃ h : Nat → Nat, (∀ i, i < n → h i = f (g i)) ∧ Mvs n (g :: (List.replicate z id ++ (lsL (spw n f) ++ R))) (h :: (List.replicate (z + (spw n f).length) id ++ R))
  | 0, f, g, z, R, hf, hg, hm, hi => by have := (isP_ent hf hn).mu; omega
  | N + 1, f, g, z, R, hf, hg, hm, hi => by
    cases hd : desc (tabN n f) with
    | none =>
      have hid : ∀ i, i < n → f i = i := inc_id hf (fun i hi hlt => by obtain ⟨j, hj, _⟩ := desc_ex hi hlt; rw [hd] at hj; cases hj)
      have e1 : spw n f = [] := by rw [← spw_id hn]; exact spw_congr hid
      refine ⟨g, fun i hi => (hid _ (hg.lt i hi)).symm, ?_⟩
      rw [e1]
      exact .refl _
    | some i =>
      obtain ⟨j1, j2⟩ := desc_tab hd
      have mj := mu_psw hf hn j1 j2
      rw [spw_some hf hn hd]
      obtain ⟨x, hx, hxi⟩ := hg.pre (show i < n by omega)
      obtain ⟨y, hy, hyi⟩ := hg.pre j1
      have hxy : x < y := by
        rcases Nat.lt_trichotomy x y with h | h | h
        · exact h
        · subst h; rw [hxi] at hyi; omega
        · have := hi y x h hx (by rw [hxi, hyi]; omega)
          rw [hxi, hyi] at this; omega
      have hm2 : CanMove n g (vsw id i) i := ⟨j1, tr_desc, x, y, hxy, hy, hxi, hyi⟩
      obtain ⟨h, h1, h2⟩ := word_in hn N (psw f i) (vsw g i) (z + 1) R (psw_isP hf j1) (vsw_isP hg j1) (by omega) (fun a b hab hb hlt => by
        have key : ∀ u, psw f i (vsw g i u) = f (g u) := fun u => by
          show f (tau (i + 1) (tau (i + 1) (g u))) = _
          rw [tau_tau (n := n) (by omega)]
        rw [key, key]
        by_cases c : g a = i ∧ g b = i + 1
        · rw [c.1, c.2]; exact j2
        · refine hi a b hab hb ?_
          have hne : g a ≠ g b := fun e => by have := hg.inj a b (by omega) hb e; omega
          unfold vsw tau at hlt
          repeat' split at hlt
          all_goals omega)
      refine ⟨h, fun u hu => by
        rw [h1 u hu]
        show f (tau (i + 1) (tau (i + 1) (g u))) = _
        rw [tau_tau (n := n) (by omega)], ?_⟩
      have e1 : trL ((i : Int) + 1) = vsw id i := by unfold trL; congr 1
      have s1 := (slide j1 (lsL (spw n (psw f i)) ++ R) z).cons g
      have s2 := Mv.here (n := n) (List.replicate z id ++ (lsL (spw n (psw f i)) ++ R)) hm2
      rw [psw_self, rep_cons] at s2
      have s3 := s1.trans (.head s2 h2)
      simp only [lsL, List.map_cons, List.cons_append, e1, List.length_cons] at s3 ⊢
      rw [show z + ((spw n (psw f i)).length + 1) = z + 1 + (spw n (psw f i)).length by omega]
      exact s3
/-- two lists of permutations of n points -/
def EqL (n : Nat) (L M : List (Nat → Nat)) : Prop := L.length = M.length ∧ ∀ j, j < M.length → ∀ i, i < n → L.getD j id i = M.getD j id i
theorem spw_nil {n : Nat} (hn : n ≤ 6) {f : Nat → Nat} (hf : IsP f n) (h : spw n f = []) : isOne n f := by
  have := spw_len hn _ f hf (Nat.le_refl _)
  rw [h] at this
  refine inc_id hf (fun i hi hd => ?_)
  have := ivc_psw hd hi
  simp only [List.length_nil] at *
  omega
/-- the words of permutations go into a list of these permutations -/
theorem blocks {n : Nat} (hn : n ≤ 6) : ∀ (L : List (Nat → Nat)) (z : Nat), (∀ f ∈ L, IsP f n ∧ ¬ isOne n f) → ∃ (M : List (Nat → Nat)) (t : Nat), EqL n M L ∧ Mvs n (id :: (List.replicate z id ++ lsL (L.flatMap (spw n)))) (M ++ List.replicate (t + 1) id)
  | [], z, _ => ⟨[], z, ⟨rfl, fun j hj => absurd hj (Nat.not_lt_zero _)⟩, by
    simp only [List.flatMap_nil, lsL, List.map_nil, List.append_nil, List.nil_append]
    exact .refl _⟩
  | f :: L, z, h => by
    obtain ⟨hf, h1⟩ := h f (by simp)
    obtain ⟨g, k1, k2⟩ := word_in hn _ f id z (lsL (L.flatMap (spw n))) hf (id_isP n) (Nat.le_refl _) (fun x y hxy _ hlt => by
      have : y < x := hlt
      omega)
    have hl : 1 ≤ (spw n f).length := by
      refine Nat.pos_of_ne_zero (fun e => h1 (spw_nil hn hf (List.length_eq_zero_iff.1 e)))
    obtain ⟨M, t, ⟨e1, e2⟩, e3⟩ := blocks hn L (z + (spw n f).length - 1) (fun g hg => h g (by simp [hg]))
    refine ⟨g :: M, t, ⟨by simp [e1], fun j hj i hi => ?_⟩, ?_⟩
    · cases j with
      | zero => exact k1 i hi
      | succ j => exact e2 j (by simpa using hj) i hi
    · rw [rep_cons, show z + (spw n f).length - 1 + 1 = z + (spw n f).length by omega] at e3
      rw [List.flatMap_cons, show lsL (spw n f ++ L.flatMap (spw n)) = lsL (spw n f) ++ lsL (L.flatMap (spw n)) by simp [lsL]]
      exact k2.trans (e3.cons g)
theorem CanMove.congr {n c : Nat} {a b a' b' : Nat → Nat} (h : CanMove n a b c) (ha : ∀ i, i < n → a i = a' i) (hb : ∀ i, i < n → b i = b' i) : CanMove n a' b' c := by
  obtain ⟨h1, h2, x, y, h3, h4, h5, h6⟩ := h
  exact ⟨h1, by rw [← hb _ h1, ← hb _ (by omega)]; exact h2, x, y, h3, h4, by rw [← ha _ (by omega)]; exact h5, by rw [← ha _ h4]; exact h6⟩
theorem irr_of {n : Nat} : ∀ {l : List (Nat → Nat)}, (∀ j, j + 1 < l.length → tgF n (l.getD j id) (l.getD (j + 1) id)) → Irr n l := by
  intro l h l' hm
  induction hm with
  | here B hc => exact h 0 (by simp) _ hc
  | there x _ ih =>
    refine ih (fun j hj => ?_)
    exact h (j + 1) (by simp only [List.length_cons]; omega)
/-- a tight list of permutations that are not one -/
structure TgL (n : Nat) (L : List (Nat → Nat)) : Prop where
  isP : ∀ f ∈ L, IsP f n
  one : ∀ f ∈ L, ¬ isOne n f
  tight : ∀ j, j + 1 < L.length → tgF n (L.getD j id) (L.getD (j + 1) id)
theorem getD_app {L R : List (Nat → Nat)} {j : Nat} : (L ++ R).getD j id = if j < L.length then L.getD j id else R.getD (j - L.length) id := by
  simp only [List.getD]
  split
  · rw [List.getElem?_append_left (by assumption)]
  · rw [List.getElem?_append_right (by omega)]
theorem getD_rep (t j : Nat) : (List.replicate t (id : Nat → Nat)).getD j id = id := by
  simp only [List.getD, List.getElem?_replicate]
  split <;> rfl
theorem TgL.irr {n : Nat} {L M : List (Nat → Nat)} (h : TgL n L) (e : EqL n M L) (t : Nat) : Irr n (M ++ List.replicate t id) := by
  refine irr_of (fun j hj c hc => ?_)
  have hl := e.1
  rw [getD_app, getD_app] at hc
  by_cases h2 : j + 1 < M.length
  · rw [if_pos (by omega), if_pos h2] at hc
    exact h.tight j (by omega) c (hc.congr (e.2 j (by omega)) (e.2 (j + 1) (by omega)))
  · rw [if_neg h2, getD_rep t (j + 1 - M.length)] at hc
    have h3 : c + 1 < c := hc.2.1
    omega
/-- EQUAL POSITIVE WORDS HAVE THE SAME TIGHT FACTORS -/
theorem tight_uniq {n : Nat} (hn : n ≤ 6) {L L' : List (Nat → Nat)} (h : TgL n L) (h' : TgL n L') (e : PE n (L.flatMap (spw n)) (L'.flatMap (spw n))) : EqL n L L' := by
  have op : ∀ {L : List (Nat → Nat)}, TgL n L → posw n (L.flatMap (spw n)) := fun {L} h x hx => by
    obtain ⟨f, hf, hx⟩ := List.mem_flatMap.1 hx
    exact spw_pos hn _ f (h.isP f hf) (Nat.le_refl _) x hx
  have ip : ∀ {L : List (Nat → Nat)}, TgL n L → ∀ g ∈ id :: (List.replicate 0 id ++ lsL (L.flatMap (spw n))), IsP g n := fun {L} h g hg => by
    rcases List.mem_cons.1 hg with rfl | hg
    · exact id_isP n
    · exact lsL_isP (op h) g hg
  obtain ⟨M, t, q1, q2⟩ := blocks hn L 0 (fun f hf => ⟨h.isP f hf, h.one f hf⟩)
  obtain ⟨M', t', r1, r2⟩ := blocks hn L' 0 (fun f hf => ⟨h'.isP f hf, h'.one f hf⟩)
  have hj : Jn n (id :: (List.replicate 0 id ++ lsL (L.flatMap (spw n)))) (id :: (List.replicate 0 id ++ lsL (L'.flatMap (spw n)))) := (jn_pe e (op h)).cons id
  have he := hj.uniq (ip h) (ip h') q2 r2 (h.irr q1 _) (h'.irr r1 _)
  have gd : ∀ j, (M ++ List.replicate (t + 1) id).getD j id = (M' ++ List.replicate (t' + 1) id).getD j id := fun j => by rw [he]
  have key : ∀ {L L' M M' : List (Nat → Nat)} {t t' : Nat}, TgL n L' → EqL n M L → EqL n M' L' → (∀ j, (M ++ List.replicate (t + 1) id).getD j id = (M' ++ List.replicate (t' + 1) id).getD j id) → ¬ M.length < M'.length := fun {L L' M M' t t'} h' q1 r1 gd hlt => by
    have := gd M.length
    rw [getD_app, getD_app, if_neg (by omega), getD_rep, if_pos hlt] at this
    have hmem : L'.getD M.length id ∈ L' := by
      rw [show L'.getD M.length id = L'[M.length]'(by have := r1.1; omega) by simp [List.getD, show M.length < L'.length by have := r1.1; omega]]
      exact List.getElem_mem _
    refine h'.one _ hmem (fun i hi => ?_)
    rw [← r1.2 _ (by have := r1.1; omega) i hi, ← this]; rfl
  have l1 := key h' q1 r1 gd
  have l2 := key h r1 q1 (fun j => (gd j).symm)
  have hlen : M.length = M'.length := by omega
  refine ⟨by rw [← q1.1, ← r1.1, hlen], fun j hj i hi => ?_⟩
  have := gd j
  rw [getD_app, getD_app, if_pos (by have := r1.1; omega), if_pos (by have := r1.1; omega)] at this
  rw [← q1.2 j (by have := r1.1; have := q1.1; omega) i hi, this]
  exact r1.2 j hj i hi
end Go.Proofs.Ytgjfpmjllpgadaa
