/- Moves of crossings between neighbouring permutations: every way of moving ends at the same lists. Plain facts: nothing of the program is here. -/
import Derived.Test.YtgjfpmjllpgadaaGGarsideEqualsBN
set_option linter.unusedVariables false
set_option linter.unusedSimpArgs false
namespace Go.Proofs.Ytgjfpmjllpgadaa

/-- a crossing goes from a permutation to the one before it -/
inductive Mv (n : Nat) : List (Nat → Nat) → List (Nat → Nat) → Prop
  | here {a b : Nat → Nat} {c : Nat} (B : List (Nat → Nat)) : CanMove n a b c → Mv n (a :: b :: B) (vsw a c :: psw b c :: B)
  | there (x : Nat → Nat) {l l' : List (Nat → Nat)} : Mv n l l' → Mv n (x :: l) (x :: l')
inductive Mvs (n : Nat) : List (Nat → Nat) → List (Nat → Nat) → Prop
  | refl (l : List (Nat → Nat)) : Mvs n l l
  | head {l l' l'' : List (Nat → Nat)} : Mv n l l' → Mvs n l' l'' → Mvs n l l''
theorem Mvs.trans {n : Nat} {a b c : List (Nat → Nat)} (h : Mvs n a b) (h' : Mvs n b c) : Mvs n a c := by
  induction h with
  | refl _ => exact h'
  | head h1 _ ih => exact .head h1 (ih h')
theorem Mvs.one {n : Nat} {a b : List (Nat → Nat)} (h : Mv n a b) : Mvs n a b := .head h (.refl _)
theorem Mvs.cons {n : Nat} (x : Nat → Nat) {a b : List (Nat → Nat)} (h : Mvs n a b) : Mvs n (x :: a) (x :: b) := by
  induction h with
  | refl _ => exact .refl _
  | head h1 _ ih => exact .head (.there x h1) ih
theorem Mv.len {n : Nat} {a b : List (Nat → Nat)} (h : Mv n a b) : b.length = a.length := by
  induction h with
  | here B _ => rfl
  | there x _ ih => simp [ih]
theorem Mvs.len {n : Nat} {a b : List (Nat → Nat)} (h : Mvs n a b) : b.length = a.length := by
  induction h with
  | refl _ => rfl
  | head h1 _ ih => rw [ih, h1.len]
theorem Mv.isP {n : Nat} {a b : List (Nat → Nat)} (h : Mv n a b) : (∀ f ∈ a, IsP f n) → ∀ f ∈ b, IsP f n := by
  induction h with
  | here B hc =>
    intro h f hf
    have p := hc.isP (h _ (by simp)) (h _ (by simp))
    rcases List.mem_cons.1 hf with rfl | hf
    · exact p.1
    · rcases List.mem_cons.1 hf with rfl | hf
      · exact p.2
      · exact h f (by simp [hf])
  | there x _ ih =>
    intro h f hf
    rcases List.mem_cons.1 hf with rfl | hf
    · exact h f (by simp)
    · exact ih (fun g hg => h g (by simp [hg])) f hf
/-- all crossings; the crossings by their places -/
def allC (n : Nat) : List (Nat → Nat) → Nat
  | [] => 0
  | f :: l => ivc f n + allC n l
def wgtC (n : Nat) : List (Nat → Nat) → Nat
  | [] => 0
  | _ :: l => wgtC n l + allC n l
theorem Mv.wgt {n : Nat} {a b : List (Nat → Nat)} (h : Mv n a b) : (∀ f ∈ a, IsP f n) → allC n b = allC n a ∧ wgtC n b < wgtC n a := by
  induction h with
  | here B hc =>
    rename_i a b c
    intro h
    obtain ⟨h1, h2, x, y, h3, h4, h5, h6⟩ := hc
    have k1 := ivc_vsw (h a (by simp)) h3 h4 h5 h6
    have k2 := ivc_psw h2 h1
    simp only [allC, wgtC]
    omega
  | there x _ ih =>
    intro h
    have := ih (fun g hg => h g (by simp [hg]))
    simp only [allC, wgtC]
    omega
theorem vsw_far {f : Nat → Nat} {c d : Nat} (h : c + 2 ≤ d) : vsw (vsw f c) d = vsw (vsw f d) c := by
  funext j
  exact (tau_far (i := c + 1) (j := d + 1) (by omega)).symm
theorem vsw_braid {f : Nat → Nat} {c : Nat} : vsw (vsw (vsw f c) (c + 1)) c = vsw (vsw (vsw f (c + 1)) c) (c + 1) := by
  funext j
  exact tau_braid (i := c + 1) (by omega)
/-- two moves at the same place -/
theorem loc_same {n : Nat} {a b : Nat → Nat} (ha : IsP a n) {c d : Nat} (hc : CanMove n a b c) (hd : CanMove n a b d) (hcd : c < d) (B : List (Nat → Nat)) : ∃ l, Mvs n (vsw a c :: psw b c :: B) l ∧ Mvs n (vsw a d :: psw b d :: B) l := by
  obtain ⟨c1, c2, x, y, c3, c4, c5, c6⟩ := hc
  obtain ⟨d1, d2, u, v, d3, d4, d5, d6⟩ := hd
  by_cases h : c + 2 ≤ d
  · have m1 : CanMove n (vsw a c) (psw b c) d := ⟨d1, by rw [psw_ot (by omega) (by omega), psw_ot (by omega) (by omega)]; exact d2, u, v, d3, d4, by unfold vsw; rw [d5, tau_ot (by omega) (by omega)], by unfold vsw; rw [d6, tau_ot (by omega) (by omega)]⟩
    have m2 : CanMove n (vsw a d) (psw b d) c := ⟨c1, by rw [psw_ot (by omega) (by omega), psw_ot (by omega) (by omega)]; exact c2, x, y, c3, c4, by unfold vsw; rw [c5, tau_ot (by omega) (by omega)], by unfold vsw; rw [c6, tau_ot (by omega) (by omega)]⟩
    refine ⟨_, .one (.here B m1), ?_⟩
    have e1 : vsw (vsw a c) d = vsw (vsw a d) c := vsw_far h
    have e2 : psw (psw b c) d = psw (psw b d) c := psw_far h
    rw [e1, e2]
    exact .one (.here B m2)
  · obtain rfl : d = c + 1 := by omega
    have hyu : y = u := ha.inj y u c4 (by omega) (by rw [c6, d5])
    subst hyu
    -- the places of c, c + 1, c + 2 are x < y < v
    have m1 : CanMove n (vsw a c) (psw b c) (c + 1) := ⟨d1, by rw [psw_ot (by omega) (by omega), psw_at1]; omega, x, v, by omega, d4, by unfold vsw; rw [c5, tau_at], by unfold vsw; rw [d6, tau_ot (by omega) (by omega)]⟩
    have m2 : CanMove n (vsw (vsw a c) (c + 1)) (psw (psw b c) (c + 1)) c := ⟨c1, by rw [psw_at, psw_ot (i := c + 1) (by omega) (by omega), psw_at, psw_ot (by omega) (by omega)]; exact d2, y, v, d3, d4, by unfold vsw; rw [c6, tau_at1, tau_ot (by omega) (by omega)], by unfold vsw; rw [d6, tau_ot (i := c) (by omega) (by omega), tau_at1]⟩
    have k1 : CanMove n (vsw a (c + 1)) (psw b (c + 1)) c := ⟨c1, by rw [psw_at, psw_ot (by omega) (by omega)]; omega, x, v, by omega, d4, by unfold vsw; rw [c5, tau_ot (by omega) (by omega)], by unfold vsw; rw [d6, tau_at1]⟩
    have k2 : CanMove n (vsw (vsw a (c + 1)) c) (psw (psw b (c + 1)) c) (c + 1) := ⟨d1, by rw [psw_at1, psw_ot (i := c) (by omega) (by omega), psw_at1, psw_ot (by omega) (by omega)]; exact c2, x, y, c3, c4, by unfold vsw; rw [c5, tau_ot (i := c + 1) (by omega) (by omega), tau_at], by unfold vsw; rw [d5, tau_at, tau_ot (by omega) (by omega)]⟩
    have m3 := m2
    refine ⟨_, .head (.here B m1) (.one (.here B m2)), ?_⟩
    have e1 : vsw (vsw (vsw a c) (c + 1)) c = vsw (vsw (vsw a (c + 1)) c) (c + 1) := vsw_braid
    have e2 : psw (psw (psw b c) (c + 1)) c = psw (psw (psw b (c + 1)) c) (c + 1) := psw_braid
    rw [e1, e2]
    exact .head (.here B k1) (.one (.here B k2))
/-- moves at neighbouring places -/
theorem loc_next {n : Nat} {a b e : Nat → Nat} (hb : IsP b n) {c d : Nat} (hc : CanMove n a b c) (hd : CanMove n b e d) (B : List (Nat → Nat)) : ∃ l, Mvs n (vsw a c :: psw b c :: e :: B) l ∧ Mvs n (a :: vsw b d :: psw e d :: B) l := by
  obtain ⟨c1, c2, x, y, c3, c4, c5, c6⟩ := hc
  obtain ⟨d1, d2, u, v, d3, d4, d5, d6⟩ := hd
  have hne : ¬ (u = c ∧ v = c + 1) := fun ⟨e1, e2⟩ => by subst e1 e2; omega
  have m1 : CanMove n (psw b c) e d := ⟨d1, d2, tau (c + 1) u, tau (c + 1) v, by
      unfold tau
      repeat' split
      all_goals omega, tau_lt (by omega) d4, by unfold psw; rw [tau_tau (n := n) (by omega)]; exact d5, by unfold psw; rw [tau_tau (n := n) (by omega)]; exact d6⟩
  have m2 : CanMove n a (vsw b d) c := ⟨c1, by
      have h1 : ¬ (b (c + 1) = d ∧ b c = d + 1) := fun ⟨e1, e2⟩ => by
        have := hb.inj (c + 1) u (by omega) (by omega) (by rw [e1, d5])
        have := hb.inj c v (by omega) d4 (by rw [e2, d6])
        omega
      unfold vsw tau
      repeat' split
      all_goals omega, x, y, c3, c4, c5, c6⟩
  exact ⟨_, .one (.there _ (.here B m1)), .one (.here _ m2)⟩
theorem Mv.loc {n : Nat} {a b c : List (Nat → Nat)} (h1 : Mv n a b) : Mv n a c → (∀ f ∈ a, IsP f n) → ∃ d, Mvs n b d ∧ Mvs n c d := by
  induction h1 generalizing c with
  | here B hc =>
    rename_i x y i
    intro h2 hP
    cases h2 with
    | here _ hd =>
      rename_i j
      rcases Nat.lt_trichotomy i j with h | h | h
      · exact loc_same (hP x (by simp)) hc hd h B
      · subst h; exact ⟨_, .refl _, .refl _⟩
      · obtain ⟨l, k1, k2⟩ := loc_same (hP x (by simp)) hd hc h B
        exact ⟨l, k2, k1⟩
    | there _ h3 =>
      cases h3 with
      | here B2 hd => exact loc_next (hP y (by simp)) hc hd B2
      | there _ h4 =>
        rename_i l'
        exact ⟨vsw x i :: psw y i :: l', .one (.there _ (.there _ h4)), .one (.here _ hc)⟩
  | there x h ih =>
    rename_i l l'
    intro h2 hP
    cases h2 with
    | here B2 hc =>
      rename_i y j
      cases h with
      | here B3 hd =>
        obtain ⟨l, k1, k2⟩ := loc_next (hP y (by simp)) hc hd B3
        exact ⟨l, k2, k1⟩
      | there _ h4 =>
        rename_i l2
        exact ⟨vsw x j :: psw y j :: l2, .one (.here _ hc), .one (.there _ (.there _ h4))⟩
    | there _ h3 =>
      obtain ⟨d, k1, k2⟩ := ih h3 (fun f hf => hP f (by simp [hf]))
      exact ⟨x :: d, k1.cons x, k2.cons x⟩
/-- nothing can be moved -/
def Irr (n : Nat) (l : List (Nat → Nat)) : Prop := ∀ l', ¬ Mv n l l'
theorem irr_ex {n : Nat} : ∀ (N : Nat) (l : List (Nat → Nat)), (∀ f ∈ l, IsP f n) → wgtC n l ≤ N → ∃ t, Mvs n l t ∧ Irr n t := by
  intro N
  induction N with
  | zero => exact fun l hP h => ⟨l, .refl _, fun l' hm => by have := (hm.wgt hP).2; omega⟩
  | succ N ih =>
    intro l hP h
    by_cases c : ∃ l', Mv n l l'
    · obtain ⟨l', hm⟩ := c
      obtain ⟨t, h1, h2⟩ := ih l' (hm.isP hP) (by have := (hm.wgt hP).2; omega)
      exact ⟨t, .head hm h1, h2⟩
    · exact ⟨l, .refl _, fun l' hm => c ⟨l', hm⟩⟩
/-- EVERY WAY ENDS AT THE SAME LIST -/
theorem irr_uniq {n : Nat} : ∀ (N : Nat) (l : List (Nat → Nat)), (∀ f ∈ l, IsP f n) → wgtC n l < N → ∀ t t', Mvs n l t → Mvs n l t' → Irr n t → Irr n t' → t = t' := by
  intro N
  induction N with
  | zero => exact fun l _ h => absurd h (Nat.not_lt_zero _)
  | succ N ih =>
    intro l hP hN t t' h h' ht ht'
    cases h with
    | refl _ =>
      cases h' with
      | refl _ => rfl
      | head hm _ => exact absurd hm (ht _)
    | head h1 h2 =>
      cases h' with
      | refl _ => exact absurd h1 (ht' _)
      | head g1 g2 =>
        obtain ⟨d, k1, k2⟩ := h1.loc g1 hP
        have w1 := (h1.wgt hP).2
        have w2 := (g1.wgt hP).2
        have p1 := h1.isP hP
        have p2 := g1.isP hP
        have pd : ∀ f ∈ d, IsP f n := by
          clear h2 g2 w1 w2 h1 g1 p2 k2
          induction k1 with
          | refl _ => exact p1
          | head hm _ ih2 => exact ih2 (hm.isP p1)
        obtain ⟨s, s1, s2⟩ := irr_ex _ d pd (Nat.le_refl _)
        have e1 := ih _ p1 (by omega) t s h2 (k1.trans s1) ht s2
        have e2 := ih _ p2 (by omega) t' s g2 (k2.trans s1) ht' s2
        rw [e1, e2]
/-- two lists that can be moved to one another's end -/
def Jn (n : Nat) (l l' : List (Nat → Nat)) : Prop := ∃ d, Mvs n l d ∧ Mvs n l' d
theorem Mvs.isP {n : Nat} {a b : List (Nat → Nat)} (h : Mvs n a b) (hP : ∀ f ∈ a, IsP f n) : ∀ f ∈ b, IsP f n := by
  induction h with
  | refl _ => exact hP
  | head hm _ ih => exact ih (hm.isP hP)
theorem Jn.uniq {n : Nat} {l l' t t' : List (Nat → Nat)} (h : Jn n l l') (hP : ∀ f ∈ l, IsP f n) (hP' : ∀ f ∈ l', IsP f n) (h1 : Mvs n l t) (h2 : Mvs n l' t') (ht : Irr n t) (ht' : Irr n t') : t = t' := by
  obtain ⟨d, k1, k2⟩ := h
  obtain ⟨s, s1, s2⟩ := irr_ex _ d (k1.isP hP) (Nat.le_refl _)
  rw [irr_uniq _ l hP (Nat.lt_succ_self _) t s h1 (k1.trans s1) ht s2, irr_uniq _ l' hP' (Nat.lt_succ_self _) t' s h2 (k2.trans s1) ht' s2]
theorem Jn.trans {n : Nat} {a b c : List (Nat → Nat)} (h : Jn n a b) (h' : Jn n b c) (hb : ∀ f ∈ b, IsP f n) : Jn n a c := by
  obtain ⟨d, k1, k2⟩ := h
  obtain ⟨e, k3, k4⟩ := h'
  obtain ⟨s, s1, s2⟩ := irr_ex _ d (k2.isP hb) (Nat.le_refl _)
  obtain ⟨u, u1, u2⟩ := irr_ex _ e (k3.isP hb) (Nat.le_refl _)
  have := irr_uniq _ b hb (Nat.lt_succ_self _) s u (k2.trans s1) (k3.trans u1) s2 u2
  subst this
  exact ⟨s, k1.trans s1, k4.trans u1⟩
end Go.Proofs.Ytgjfpmjllpgadaa

/- Positive words that are equal by the relations; the words of permutations. Plain facts: nothing of the program is here. -/
set_option linter.unusedVariables false
set_option linter.unusedSimpArgs false
namespace Go.Proofs.Ytgjfpmjllpgadaa

/-- positive words, equal by the relations -/
inductive PE (n : Int) : List Int → List Int → Prop
  | refl (a : List Int) : PE n a a
  | symm {a b : List Int} : PE n a b → PE n b a
  | trans {a b c : List Int} : PE n a b → PE n b c → PE n a c
  | consI (x : Int) {a b : List Int} : PE n a b → PE n (x :: a) (x :: b)
  | farI {i j : Int} (hi : 1 ≤ i) (hij : i + 2 ≤ j) (hj : j < n) (t : List Int) : PE n (i :: j :: t) (j :: i :: t)
  | brdI {i : Int} (hi : 1 ≤ i) (hn : i + 1 < n) (t : List Int) : PE n (i :: (i + 1) :: i :: t) ((i + 1) :: i :: (i + 1) :: t)
theorem PE.pre {n : Int} {a b : List Int} (h : PE n a b) : ∀ v : List Int, PE n (v ++ a) (v ++ b)
  | [] => h
  | x :: v => (PE.pre h v).consI x
theorem PE.suf {n : Int} {a b : List Int} (h : PE n a b) (v : List Int) : PE n (a ++ v) (b ++ v) := by
  induction h with
  | refl a => exact .refl _
  | symm _ ih => exact ih.symm
  | trans _ _ ih1 ih2 => exact ih1.trans ih2
  | consI x _ ih => exact ih.consI x
  | farI h1 h2 h3 t => exact .farI h1 h2 h3 _
  | brdI h1 h2 t => exact .brdI h1 h2 _
theorem PE.cons {n x : Int} {c d : List Int} (_ : x ≠ 0 ∧ x < n ∧ -n < x) (h : PE n c d) : PE n (x :: c) (x :: d) := h.consI x
theorem PE.right {n : Int} {a b : List Int} (c : List Int) (_ : brd n b) (h : PE n a b) : PE n (a ++ c) (b ++ c) := h.suf c
theorem PE.far {n i j : Int} (_ : n ≤ 6) (hi : 1 ≤ i) (hij : i + 2 ≤ j) (hj : j < n) : PE n [i, j] [j, i] := .farI hi hij hj []
theorem PE.braid {n i : Int} (_ : n ≤ 6) (hi : 1 ≤ i ∧ i + 1 < n) : PE n [i, i + 1, i] [i + 1, i, i + 1] := .brdI hi.1 hi.2 []
theorem PE.len {n : Int} {a b : List Int} (h : PE n a b) : a.length = b.length := by
  induction h with
  | refl a => rfl
  | symm _ ih => exact ih.symm
  | trans _ _ ih1 ih2 => exact ih1.trans ih2
  | consI x _ ih => simp [ih]
  | farI _ _ _ t => rfl
  | brdI _ _ t => rfl
theorem spw_descP {n : Nat} (hn : n ≤ 6) : ∀ (N : Nat) (f : Nat → Nat) (i : Nat), IsP f n → mu (tabN n f) ≤ N → i + 1 < n → f (i + 1) < f i → PE n (spw n f) (((i : Int) + 1) :: spw n (psw f i))
  | 0, f, i, h, hm, _, _ => by have := (isP_ent h hn).mu; omega
  | N + 1, f, i, h, hm, hi, hlt => by
    obtain ⟨j, hd, hji⟩ := desc_ex hi hlt
    obtain ⟨j1, j2⟩ := desc_tab hd
    rw [spw_some h hn hd]
    by_cases e : j = i
    · subst e; exact PE.refl _
    have hpj := psw_isP h j1
    have hpi := psw_isP h hi
    have mj := mu_psw h hn j1 j2
    have mi := mu_psw h hn hi hlt
    have lj : ((j : Int) + 1) ≠ 0 ∧ (j : Int) + 1 < n ∧ -(n : Int) < (j : Int) + 1 := by omega
    have li : ((i : Int) + 1) ≠ 0 ∧ (i : Int) + 1 < n ∧ -(n : Int) < (i : Int) + 1 := by omega
    by_cases hf : j + 2 ≤ i
    · have d1 : psw f j (i + 1) < psw f j i := by rw [psw_ot (by omega) (by omega), psw_ot (by omega) (by omega)]; exact hlt
      have d2 : psw f i (j + 1) < psw f i j := by rw [psw_ot (by omega) (by omega), psw_ot (by omega) (by omega)]; exact j2
      have k1 := spw_descP hn N (psw f j) i hpj (by omega) hi d1
      have k2 := spw_descP hn N (psw f i) j hpi (by omega) j1 d2
      rw [psw_far hf] at k1
      refine (PE.cons lj k1).trans (PE.trans ?_ (PE.cons li k2).symm)
      exact PE.right (a := [(j : Int) + 1, (i : Int) + 1]) (b := [(i : Int) + 1, (j : Int) + 1]) _ (brd_cons li (brd_one lj)) (PE.far (by omega) (by omega) (by omega) (by omega))
    · obtain rfl : i = j + 1 := by omega
      have x1 : psw f j (j + 1 + 1) < psw f j (j + 1) := by rw [psw_ot (by omega) (by omega), psw_at1]; omega
      have k1 := spw_descP hn N (psw f j) (j + 1) hpj (by omega) hi x1
      have hp2 := psw_isP hpj hi
      have m2 := mu_psw hpj hn hi x1
      have x2 : psw (psw f j) (j + 1) (j + 1) < psw (psw f j) (j + 1) j := by
        rw [psw_at, psw_ot (i := j + 1) (by omega) (by omega), psw_at, psw_ot (by omega) (by omega)]; exact hlt
      have k2 := spw_descP hn N _ j hp2 (by omega) j1 x2
      have y1 : psw f (j + 1) (j + 1) < psw f (j + 1) j := by rw [psw_at, psw_ot (by omega) (by omega)]; omega
      have q1 := spw_descP hn N (psw f (j + 1)) j hpi (by omega) j1 y1
      have hq2 := psw_isP hpi j1
      have n2 := mu_psw hpi hn j1 y1
      have y2 : psw (psw f (j + 1)) j (j + 1 + 1) < psw (psw f (j + 1)) j (j + 1) := by
        rw [psw_at1, psw_ot (i := j) (by omega) (by omega), psw_at1, psw_ot (by omega) (by omega)]; exact j2
      have q2 := spw_descP hn N _ (j + 1) hq2 (by omega) hi y2
      have e3 := psw_braid (f := f) (i := j)
      rw [e3] at k2
      have ec : ((j + 1 : Nat) : Int) + 1 = (j : Int) + 1 + 1 := by omega
      rw [ec] at li k1 q2 ⊢
      refine ((PE.cons lj (k1.trans (PE.cons li k2))).trans (PE.trans ?_ (PE.cons li (q1.trans (PE.cons lj q2))).symm))
      exact PE.right (a := [(j : Int) + 1, (j : Int) + 1 + 1, (j : Int) + 1]) (b := [(j : Int) + 1 + 1, (j : Int) + 1, (j : Int) + 1 + 1]) _ (brd_cons li (brd_cons lj (brd_one li))) (PE.braid (by omega) (by omega))
theorem spw_lastP {n : Nat} (hn : n ≤ 6) : ∀ (N : Nat) (f : Nat → Nat) (v x y : Nat), IsP f n → mu (tabN n f) ≤ N → x < y → y < n → f x = v → f y = v + 1 → PE n (spw n (vsw f v)) (spw n f ++ [(v : Int) + 1])
  | 0, f, v, x, y, h, hm, _, _, _, _ => by have := (isP_ent h hn).mu; omega
  | N + 1, f, v, x, y, h, hm, hxy, hy, hfx, hfy => by
    have hv : v + 1 < n := by rw [← hfy]; exact h.lt y hy
    have hvp := vsw_isP h hv
    cases hd : desc (tabN n f) with
    | none =>
      have hid : ∀ i, i < n → f i = i := inc_id h (fun i hi hlt => by obtain ⟨j, hj, _⟩ := desc_ex hi hlt; rw [hd] at hj; cases hj)
      have e1 : x = v := by rw [← hfx]; exact (hid x (by omega)).symm
      have e2 : y = v + 1 := by rw [← hfy]; exact (hid y hy).symm
      have hdv : vsw f v (v + 1) < vsw f v v := by
        unfold vsw
        rw [hid _ hv, hid _ (by omega), tau_at, tau_at1]; omega
      have k := spw_descP hn _ (vsw f v) v hvp (Nat.le_refl _) hv hdv
      have e3 : spw n (psw (vsw f v) v) = [] := by
        rw [← spw_id hn]
        unfold spw
        congr 1
        refine tab_ext (fun i hi => ?_)
        show tau (v + 1) (f (tau (v + 1) i)) = i
        rw [hid _ (tau_lt (by omega) hi), tau_tau (n := n) (by omega)]
      have e4 : spw n f = [] := by rw [← spw_id hn]; unfold spw; rw [tab_id hid]
      rw [e3] at k
      rw [e4]
      exact k
    | some j =>
      obtain ⟨j1, j2⟩ := desc_tab hd
      have lj : ((j : Int) + 1) ≠ 0 ∧ (j : Int) + 1 < n ∧ -(n : Int) < (j : Int) + 1 := by omega
      have hne : ¬ (f j = v + 1 ∧ f (j + 1) = v) := fun ⟨a, b⟩ => by
        have c1 := h.inj j y (by omega) hy (by rw [a, hfy])
        have c2 := h.inj (j + 1) x j1 (by omega) (by rw [b, hfx])
        omega
      have hdj : vsw f v (j + 1) < vsw f v j := by
        unfold vsw tau
        have hff : f j ≠ f (j + 1) := by omega
        repeat' split
        all_goals omega
      have k1 := spw_descP hn _ (vsw f v) j hvp (Nat.le_refl _) j1 hdj
      rw [vsw_psw] at k1
      have mj := mu_psw h hn j1 j2
      have hx2 : psw f j (tau (j + 1) x) = v := by unfold psw; rw [tau_tau (n := n) (by omega)]; exact hfx
      have hy2 : psw f j (tau (j + 1) y) = v + 1 := by unfold psw; rw [tau_tau (n := n) (by omega)]; exact hfy
      have hxy2 : tau (j + 1) x < tau (j + 1) y := by
        have hn2 : ¬ (x = j ∧ y = j + 1) := fun ⟨a, b⟩ => by subst a b; omega
        unfold tau
        repeat' split
        all_goals omega
      have k2 := spw_lastP hn N (psw f j) v _ _ (psw_isP h j1) (by omega) hxy2 (tau_lt (by omega) hy) hx2 hy2
      rw [spw_some h hn hd]
      exact k1.trans (PE.cons lj k2)
theorem hlf_letP {n i : Nat} (hn : n ≤ 6) (hi : 1 ≤ i ∧ i < n) : PE n (spw n (hlf n) ++ [(i : Int)]) (((n - i : Nat) : Int) :: spw n (hlf n)) := by
  have hp := hlf_isP n
  have hX := psw_isP hp (i := n - 1 - i) (by omega)
  have k1 := spw_descP hn _ (hlf n) (n - 1 - i) hp (Nat.le_refl _) (by omega) (by unfold hlf; omega)
  have k2 := spw_lastP hn _ (psw (hlf n) (n - 1 - i)) (i - 1) (n - 1 - i) (n - 1 - i + 1) hX (Nat.le_refl _) (by omega) (by omega) (by rw [psw_at]; unfold hlf; omega) (by rw [psw_at1]; unfold hlf; omega)
  have e : spw n (vsw (psw (hlf n) (n - 1 - i)) (i - 1)) = spw n (hlf n) := spw_congr (fun j hj => by
    unfold vsw psw hlf tau
    repeat' split
    all_goals omega)
  rw [e] at k2
  have e1 : (((n - 1 - i : Nat) : Int) + 1) = ((n - i : Nat) : Int) := by omega
  have e2 : (((i - 1 : Nat) : Int) + 1) = (i : Int) := by omega
  rw [e1] at k1
  rw [e2] at k2
  have l1 : ((n - i : Nat) : Int) ≠ 0 ∧ ((n - i : Nat) : Int) < n ∧ -(n : Int) < ((n - i : Nat) : Int) := by omega
  refine (PE.right [(i : Int)] (brd_cons l1 (spw_br hn hX)) k1).trans ?_
  rw [List.cons_append]
  exact PE.cons l1 k2.symm
end Go.Proofs.Ytgjfpmjllpgadaa
