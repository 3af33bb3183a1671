/- The plain law of TopCrossings: permutations of words, their signs. Nothing of the program is here. -/
import Derived.Test.YtgjfpmjllpgadaaGTopPermutationBraidsAX
import Derived.Test.YtgjfpmjllpgadaaGTopPermutationBraidsAC
import Derived.Test.YtgjfpmjllpgadaaGTopPermutationBraidsBM
set_option linter.unusedVariables false
set_option linter.unusedSimpArgs false
namespace Go.Proofs.Ytgjfpmjllpgadaa

theorem tau_lt_iff {i x y : Nat} (hi : 1 ≤ i) (hxy : x ≠ y) (h : ¬ (x + 1 = i ∧ y = i) ∧ ¬ (y + 1 = i ∧ x = i)) : tau i x < tau i y ↔ x < y := by
  unfold tau
  split <;> split <;> (try split) <;> (try split) <;> omega
theorem ivc_id : ∀ m, ivc (fun j => j) m = 0
  | 0 => rfl
  | m + 1 => by
    show ivc (fun j => j) m + cnt _ m = 0
    rw [ivc_id m, cnt_zero (fun k hk => by simp; omega)]
theorem Wd.isP {n : Nat} {w : List Int} (h : Wd n w) : ∀ k, k ≤ w.length → IsP (eAt w k) n := fun k hk =>
  ⟨fun i hi => h.e_lt k hk i hi, fun i j _ _ e => by
    have := congrArg (fAt w k) e
    rwa [h.fe k hk, h.fe k hk] at this⟩
end Go.Proofs.Ytgjfpmjllpgadaa

/- The word of a permutation: its length, where the strands go, its form. Plain facts: nothing of the program is here. -/
set_option linter.unusedVariables false
set_option linter.unusedSimpArgs false
namespace Go.Proofs.Ytgjfpmjllpgadaa

theorem cnt_tau {p : Nat → Bool} {i : Nat} : ∀ {m : Nat}, i + 1 < m → cnt (fun j => p (tau (i + 1) j)) m = cnt p m
  | m + 1, h => by
    by_cases e : i + 1 = m
    · subst e
      simp only [cnt, tau_at1, tau_at]
      rw [cnt_congr (p := fun j => p (tau (i + 1) j)) (q := p) (fun k hk => by rw [tau_ot (by omega) (by omega)])]
      omega
    · have e1 : tau (i + 1) m = m := tau_ot (by omega) (by omega)
      simp only [cnt, e1]
      rw [cnt_tau (by omega)]
/-- a descent less -/
theorem ivc_psw {f : Nat → Nat} {i : Nat} (hd : f (i + 1) < f i) : ∀ {m : Nat}, i + 1 < m → ivc (psw f i) m + 1 = ivc f m
  | m + 1, h => by
    by_cases e : i + 1 = m
    · subst e
      simp only [ivc, cnt, psw_at1, psw_at]
      have e1 : ivc (psw f i) i = ivc f i := ivc_congr (fun k hk => psw_ot (by omega) (by omega))
      have e2 : ∀ a : Nat, cnt (fun j => decide (a < psw f i j)) i = cnt (fun j => decide (a < f j)) i := fun a => cnt_congr (fun k hk => by rw [psw_ot (by omega) (by omega)])
      rw [e1, e2, e2]
      simp only [decide_eq_true_eq]
      rw [if_neg (by omega), if_pos hd]
      omega
    · have ih := ivc_psw hd (m := m) (by omega)
      have e0 : psw f i m = f m := psw_ot (by omega) (by omega)
      simp only [ivc, e0]
      have := cnt_tau (p := fun j => decide (f m < f j)) (i := i) (m := m) (by omega)
      have e2 : cnt (fun j => decide (f m < psw f i j)) m = cnt (fun j => decide (f m < f j)) m := this
      rw [e2]
      omega
/-- a crossing of neighbours more -/
theorem ivc_vsw {f : Nat → Nat} {n v x y : Nat} (hf : IsP f n) (hxy : x < y) (hy : y < n) (hx1 : f x = v) (hy1 : f y = v + 1) : ivc (vsw f v) n = ivc f n + 1 := by
  have key : ∀ m, m ≤ n → ivc (vsw f v) m = ivc f m + if y < m then 1 else 0 := by
    intro m
    induction m with
    | zero => intro _; simp [ivc]
    | succ m ih =>
      intro hm
      have ih := ih (by omega)
      have sp : ∀ j k, j < n → k < n → j < k → ¬ (j = x ∧ k = y) → (vsw f v k < vsw f v j ↔ f k < f j) := fun j k hj hk hjk hne => by
        unfold vsw
        refine tau_lt_iff (by omega) (fun e => by have := hf.inj _ _ hk hj e; omega) ⟨fun h => ?_, fun h => ?_⟩
        · have e1 := hf.inj k x hk (by omega) (by omega)
          have e2 := hf.inj j y hj hy (by omega)
          omega
        · have e1 := hf.inj j x hj (by omega) (by omega)
          have e2 := hf.inj k y hk hy (by omega)
          exact hne ⟨e1, e2⟩
      rw [show ivc (vsw f v) (m + 1) = ivc (vsw f v) m + cnt (fun j => decide (vsw f v m < vsw f v j)) m from rfl, show ivc f (m + 1) = ivc f m + cnt (fun j => decide (f m < f j)) m from rfl]
      by_cases hmy : m = y
      · subst hmy
        have hd := cnt_diff (p := fun j => decide (vsw f v m < vsw f v j)) (q := fun j => decide (f m < f j)) (u := x) (m := m) hxy (fun j hj hne => decide_eq_decide.2 (sp j m (by omega) hy hj (fun h => hne h.1)))
        have h1 : vsw f v m < vsw f v x := by unfold vsw; rw [hx1, hy1, tau_at, tau_at1]; omega
        have h2 : ¬ f m < f x := by omega
        simp only [decide_eq_true_eq, h1, h2, if_true, if_false] at hd
        rw [if_neg (by omega)] at ih
        rw [if_pos (by omega)]; omega
      · have hc : cnt (fun j => decide (vsw f v m < vsw f v j)) m = cnt (fun j => decide (f m < f j)) m := cnt_congr (fun j hj => decide_eq_decide.2 (sp j m (by omega) (by omega) hj (fun h => hmy h.2)))
        rw [hc]
        by_cases hlt : y < m
        · rw [if_pos hlt] at ih; rw [if_pos (by omega)]; omega
        · rw [if_neg hlt] at ih; rw [if_neg (by omega)]; omega
  have := key n (Nat.le_refl _)
  rwa [if_pos hy] at this
theorem ivc_hlf {n : Nat} {f : Nat → Nat} (h : ∀ i, i < n → f i = hlf n i) : ∀ m, m ≤ n → 2 * ivc f m = m * (m - 1)
  | 0, _ => by simp [ivc]
  | m + 1, hm => by
    have ih := ivc_hlf h m (by omega)
    have hc : ∀ k, k ≤ m → cnt (fun j => decide (f m < f j)) k = k := by
      intro k
      induction k with
      | zero => intro _; rfl
      | succ k ihk =>
        intro hk
        simp only [cnt]
        rw [ihk (by omega)]
        have : f m < f k := by rw [h m (by omega), h k (by omega)]; unfold hlf; omega
        simp [this]
    simp only [ivc]
    rw [hc m (Nat.le_refl _)]
    cases m with
    | zero => simp [ivc]
    | succ m =>
      have e : (m + 1 + 1) * (m + 1) = (m + 1) * m + 2 * (m + 1) := by rw [← Nat.mul_comm (m + 1), ← Nat.mul_comm (m + 1), ← Nat.mul_add]
      rw [Nat.mul_add, ih, Nat.add_sub_cancel, Nat.add_sub_cancel, e]
theorem cnt_full (p : Nat → Bool) : ∀ m, cnt p m = m → ∀ k, k < m → p k = true
  | m + 1, h, k, hk => by
    have := cnt_le p m
    simp only [cnt] at h
    by_cases hp : p m = true
    · rw [if_pos hp] at h
      by_cases e : k = m
      · rw [e]; exact hp
      · exact cnt_full p m (by omega) k (by omega)
    · rw [if_neg hp] at h; omega
/-- no more inversions than the half twist has -/
theorem ivc_le (f : Nat → Nat) : ∀ m, 2 * ivc f m ≤ m * (m - 1)
  | 0 => by simp [ivc]
  | m + 1 => by
    have ih := ivc_le f m
    have := cnt_le (fun j => decide (f m < f j)) m
    simp only [ivc]
    cases m with
    | zero => simp [ivc] at ih ⊢; omega
    | succ m =>
      rw [Nat.add_sub_cancel] at ih ⊢
      have e : (m + 1 + 1) * (m + 1) = (m + 1) * m + 2 * (m + 1) := by rw [← Nat.mul_comm (m + 1), ← Nat.mul_comm (m + 1), ← Nat.mul_add]
      rw [e]; omega
/-- as many inversions: the half twist -/
theorem ivc_top {f : Nat → Nat} : ∀ m, 2 * ivc f m = m * (m - 1) → ∀ i j, i < j → j < m → f j < f i
  | m + 1, h, i, j, hij, hj => by
    have hl := ivc_le f m
    have hc := cnt_le (fun j => decide (f m < f j)) m
    simp only [ivc] at h
    have e : (m + 1) * (m + 1 - 1) = m * (m - 1) + 2 * m := by
      cases m with
      | zero => rfl
      | succ m => rw [Nat.add_sub_cancel, Nat.add_sub_cancel, ← Nat.mul_comm (m + 1), ← Nat.mul_comm (m + 1), ← Nat.mul_add]
    rw [e] at h
    by_cases e2 : j = m
    · subst e2
      have := cnt_full (fun k => decide (f j < f k)) j (by omega) i hij
      simpa using this
    · exact ivc_top m (by omega) i j hij (by omega)
theorem tw_of_top {n : Nat} {f : Nat → Nat} (hf : IsP f n) (h : 2 * ivc f n = n * (n - 1)) : isTw n f := by
  have hd := ivc_top n h
  have hP : IsP (fun j => f (n - 1 - j)) n := ⟨fun j hj => hf.lt _ (by omega), fun a b ha hb e => by have := hf.inj _ _ (by omega) (by omega) e; omega⟩
  have hid := inc_id hP (fun i hi hlt => by
    have hlt : f (n - 1 - (i + 1)) < f (n - 1 - i) := hlt
    have := hd (n - 1 - (i + 1)) (n - 1 - i) (by omega) (by omega)
    omega)
  intro i hi
  have h1 : f (n - 1 - (n - 1 - i)) = n - 1 - i := hid (n - 1 - i) (by omega)
  rw [show n - 1 - (n - 1 - i) = i by omega] at h1
  exact h1
theorem ivc_one {n : Nat} {f : Nat → Nat} (h : isOne n f) : ivc f n = 0 := by
  rw [ivc_congr (g := fun j => j) (fun k hk => h k hk), ivc_id]
/-- THE LENGTH OF THE WORD -/
theorem spw_len {n : Nat} (hn : n ≤ 6) : ∀ (N : Nat) (f : Nat → Nat), IsP f n → mu (tabN n f) ≤ N → (spw n f).length = ivc f n
  | 0, f, h, hm => by have := (isP_ent h hn).mu; omega
  | N + 1, f, h, hm => by
    cases hd : desc (tabN n f) with
    | none =>
      have hid : ∀ i, i < n → f i = i := inc_id h (fun i hi hlt => by obtain ⟨j, hj, _⟩ := desc_ex hi hlt; rw [hd] at hj; cases hj)
      rw [spw_congr hid, ivc_one hid]
      show (spw n id).length = 0
      rw [spw_id hn]; rfl
    | some j =>
      obtain ⟨j1, j2⟩ := desc_tab hd
      have mj := mu_psw h hn j1 j2
      rw [spw_some h hn hd, List.length_cons, spw_len hn N _ (psw_isP h j1) (by omega), ivc_psw j2 j1]
theorem eAt_cons (x : Int) (w : List Int) : ∀ (k s : Nat), eAt (x :: w) (k + 1) s = eAt w k (tau (ltr x) s)
  | 0, s => rfl
  | k + 1, s => by
    show tau (ltr ((x :: w).getD (k + 1) 0)) (eAt (x :: w) (k + 1) s) = tau (ltr (w.getD k 0)) (eAt w k (tau (ltr x) s))
    rw [eAt_cons x w k s]; rfl
/-- WHERE THE STRANDS GO -/
theorem spw_ends {n : Nat} (hn : n ≤ 6) : ∀ (N : Nat) (f : Nat → Nat), IsP f n → mu (tabN n f) ≤ N → ∀ s, s < n → eAt (spw n f) (spw n f).length s = f s
  | 0, f, h, hm => by have := (isP_ent h hn).mu; omega
  | N + 1, f, h, hm => by
    intro s hs
    cases hd : desc (tabN n f) with
    | none =>
      have hid : ∀ i, i < n → f i = i := inc_id h (fun i hi hlt => by obtain ⟨j, hj, _⟩ := desc_ex hi hlt; rw [hd] at hj; cases hj)
      rw [spw_congr (g := id) hid, spw_id hn, hid s hs]; rfl
    | some j =>
      obtain ⟨j1, j2⟩ := desc_tab hd
      have mj := mu_psw h hn j1 j2
      have hl : ltr ((j : Int) + 1) = j + 1 := by unfold ltr absI; split <;> omega
      rw [spw_some h hn hd, List.length_cons, eAt_cons, hl, spw_ends hn N _ (psw_isP h j1) (by omega) _ (tau_lt (by omega) hs)]
      unfold psw
      rw [tau_tau (n := n) (by omega)]
/-- the letter's factor has one descent -/
theorem let_move {n v : Nat} {g : Nat → Nat} {c : Nat} (h : CanMove n g (vsw id v) c) : c = v := by
  have h1 := h.2.1
  unfold vsw tau at h1
  simp only [id] at h1
  repeat' split at h1
  all_goals omega
theorem id_move {n v : Nat} {g : Nat → Nat} {c : Nat} (hv : v + 1 < n) : ¬ CanMove n g (psw (vsw id v) v) c := fun h => by
  have h1 := h.2.1
  have e : ∀ j, psw (vsw id v) v j = j := fun j => tau_tau (n := n) (by omega)
  rw [e, e] at h1; omega
/-- the form of the first letters of the word of a permutation -/
structure One (n : Nat) (e : Nat → Nat) (k : Int) (m : Nat) (G : Fam) : Prop where
  tw : isTw n e → k = 1 ∧ m = 0
  ot : ¬ isTw n e → k = 0 ∧ m = 1 ∧ ∀ i, i < n → G 0 i = e i
theorem not_tw_one {n : Nat} (hn : 2 ≤ n) {f : Nat → Nat} (h : isOne n f) : ¬ isTw n f := fun ht => by
  have h1 := ht 0 (by omega)
  rw [h 0 (by omega)] at h1
  unfold hlf at h1; omega
/-- a factor alone -/
theorem one_first {n v : Nat} (hn : 2 ≤ n) (hv : v + 1 < n) {k' : Int} {m' : Nat} {G' G0 : Fam} {e : Nat → Nat} (he : ∀ i, i < n → e i = vsw id v i) (h0 : G0 0 = vsw id v) (h : Stl n 0 1 G0 k' m' G') : One n e k' m' G' := by
  obtain ⟨G, s, c, h1, h2, h3, h4, h5, h6, h7, h8, h9, h10, h11⟩ := h.ex
  have hG : G 0 = vsw id v := by
    cases h1 with
    | refl => exact h0
    | snoc _ q2 _ => omega
  have hno : ¬ isOne n (vsw id v) := fun ho => by
    have := ho v (by omega)
    unfold vsw at this
    simp only [id] at this
    rw [tau_at] at this; omega
  have tr : isTw n e ↔ isTw n (vsw id v) := ⟨fun h i hi => by rw [← he i hi]; exact h i hi, fun h i hi => by rw [he i hi]; exact h i hi⟩
  have hc : c = 1 := by
    rcases Nat.lt_or_ge c 1 with hlt | hge
    · exfalso
      have := h8 0 (by omega) (by omega)
      rw [hG] at this
      exact hno this
    · omega
  refine ⟨fun ht => ?_, fun ht => ?_⟩
  · have hs : s = 1 := by
      rcases Nat.lt_or_ge s 1 with hlt | hge
      · exfalso
        obtain rfl : s = 0 := by omega
        exact h6 (by omega) (by rw [hG]; exact tr.1 ht)
      · omega
    exact ⟨by rw [h9, hs]; rfl, by omega⟩
  · have hs : s = 0 := by
      rcases Nat.eq_zero_or_pos s with hz | hp
      · exact hz
      · exfalso
        have := h5 0 hp
        rw [hG] at this
        exact ht (tr.2 this)
    refine ⟨by rw [h9, hs]; rfl, by omega, fun i hi => ?_⟩
    rw [h11 0 (by omega), hs, he i hi, ← hG]
/-- a factor and a letter that makes it longer -/
theorem one_more {n v x y : Nat} (hn : 2 ≤ n) (hv : v + 1 < n) {k' : Int} {m' : Nat} {G' G0 : Fam} {e e' : Nat → Nat} (hP : IsP e n) (hxy : x < y) (hy : y < n) (hx1 : e x = v) (hy1 : e y = v + 1) (he : ∀ i, i < n → G0 0 i = e i) (h0 : G0 1 = vsw id v) (hne : ¬ isTw n e) (hee : ∀ i, i < n → e' i = vsw e v i) (hno : ¬ isOne n e') (h : Stl n 0 2 G0 k' m' G') : One n e' k' m' G' := by
  obtain ⟨G, s, c, h1, h2, h3, h4, h5, h6, h7, h8, h9, h10, h11⟩ := h.ex
  have hcan : CanMove n (G0 0) (G0 1) v := by
    rw [h0]
    refine ⟨hv, ?_, x, y, hxy, hy, by rw [he x (by omega)]; exact hx1, by rw [he y hy]; exact hy1⟩
    unfold vsw
    simp only [id]
    rw [tau_at, tau_at1]; omega
  -- one move at the most, and one is needed
  have key : ∀ G, LM n 2 G0 G → (G 0 = G0 0 ∧ G 1 = G0 1) ∨ (G 0 = vsw (G0 0) v ∧ G 1 = psw (vsw id v) v) := fun G hG => by
    induction hG with
    | refl => exact .inl ⟨rfl, rfl⟩
    | snoc q1 q2 q3 ih =>
      rename_i G i c
      obtain rfl : i = 0 := by omega
      rcases ih with ⟨a, b⟩ | ⟨a, b⟩
      · have q3' : CanMove n (G 0) (G 1) c := q3
        rw [b, h0] at q3'
        have := let_move q3'
        subst this
        refine .inr ⟨?_, ?_⟩
        · rw [ovr_ne _ _ (by omega), ovr_same, a]
        · rw [ovr_same]; show psw (G 1) c = _; rw [b, h0]
      · have q3' : CanMove n (G 0) (G 1) c := q3
        rw [b] at q3'
        exact absurd q3' (id_move hv)
  have hG : G 0 = vsw (G0 0) v ∧ G 1 = psw (vsw id v) v := by
    rcases key G h1 with ⟨a, b⟩ | h
    · exfalso
      have := h2 0 (by omega) v
      rw [a, b] at this
      exact this hcan
    · exact h
  have g0 : ∀ i, i < n → G 0 i = e' i := fun i hi => by
    rw [hG.1, hee i hi]
    unfold vsw
    rw [he i hi]
  have g1 : isOne n (G 1) := fun i hi => by rw [hG.2]; exact tau_tau (n := n) (by omega)
  have tr : isTw n e' ↔ isTw n (G 0) := ⟨fun h i hi => by rw [g0 i hi]; exact h i hi, fun h i hi => by rw [← g0 i hi]; exact h i hi⟩
  have tr1 : ¬ isOne n (G 0) := fun h => hno (fun i hi => by rw [← g0 i hi]; exact h i hi)
  have hs1 : s ≤ 1 := by
    rcases Nat.lt_or_ge 1 s with hlt | hge
    · exact absurd (h5 1 hlt) (not_tw_one hn g1)
    · exact hge
  have hc1 : c ≤ 1 := by
    rcases Nat.lt_or_ge 1 c with hlt | hge
    · exact absurd g1 (h7 1 (by omega) hlt)
    · exact hge
  have hc : c = 1 := by
    rcases Nat.lt_or_ge c 1 with hlt | hge
    · exact absurd (h8 0 (by omega) (by omega)) tr1
    · omega
  refine ⟨fun ht => ?_, fun ht => ?_⟩
  · have hs : s = 1 := by
      rcases Nat.lt_or_ge s 1 with hlt | hge
      · exfalso
        obtain rfl : s = 0 := by omega
        exact h6 (by omega) (tr.1 ht)
      · omega
    exact ⟨by rw [h9, hs]; rfl, by omega⟩
  · have hs : s = 0 := by
      rcases Nat.eq_zero_or_pos s with hz | hp
      · exact hz
      · exact absurd (tr.2 (h5 0 hp)) ht
    refine ⟨by rw [h9, hs]; rfl, by omega, fun i hi => ?_⟩
    rw [h11 0 (by omega), hs]
    exact g0 i hi
theorem st_nil {n : Nat} {k : Int} {m : Nat} {G : Fam} (h : St n [] k m G) : k = 0 ∧ m = 0 := by
  generalize hw : ([] : List Int) = w at h
  cases h with
  | nil => exact ⟨rfl, rfl⟩
  | snoc => simp at hw
theorem st_snoc {n : Nat} {w : List Int} {x : Int} {k' : Int} {m' : Nat} {G' : Fam} (h : St n (w ++ [x]) k' m' G') : ∃ k m G, St n w k m G ∧ 1 ≤ x.natAbs ∧ x.natAbs < n ∧ Stl n (if 0 < x then k else k - 1) (m + 1) (addG n m G x) k' m' G' := by
  generalize hw : w ++ [x] = u at h
  cases h with
  | nil => simp at hw
  | snoc h1 h2 h3 h4 =>
    obtain ⟨rfl, e⟩ := List.append_inj' hw rfl
    obtain rfl : x = _ := by simpa using e
    exact ⟨_, _, _, h1, h2, h3, h4⟩
theorem spw_pos {n : Nat} (hn : n ≤ 6) : ∀ (N : Nat) (f : Nat → Nat), IsP f n → mu (tabN n f) ≤ N → ∀ x ∈ spw n f, 1 ≤ x ∧ x < n
  | 0, f, h, hm => by have := (isP_ent h hn).mu; omega
  | N + 1, f, h, hm => by
    intro x hx
    cases hd : desc (tabN n f) with
    | none => unfold spw at hx; rw [spell_none (isP_ent h hn) hd] at hx; cases hx
    | some j =>
      obtain ⟨j1, j2⟩ := desc_tab hd
      have mj := mu_psw h hn j1 j2
      rw [spw_some h hn hd] at hx
      rcases List.mem_cons.1 hx with rfl | hx
      · omega
      · exact spw_pos hn N _ (psw_isP h j1) (by omega) x hx
/-- a letter changes the number of inversions by one -/
theorem ivc_step {n v : Nat} {e : Nat → Nat} (he : IsP e n) (hv : v + 1 < n) : (∃ x y, x < y ∧ y < n ∧ e x = v ∧ e y = v + 1 ∧ ivc (vsw e v) n = ivc e n + 1) ∨ ivc (vsw e v) n + 1 = ivc e n := by
  obtain ⟨x, hx, hx1⟩ := he.pre (show v < n by omega)
  obtain ⟨y, hy, hy1⟩ := he.pre hv
  have hne : x ≠ y := fun h => by rw [h, hy1] at hx1; omega
  rcases Nat.lt_or_gt_of_ne hne with h | h
  · exact .inl ⟨x, y, h, hy, hx1, hy1, ivc_vsw he h hy hx1 hy1⟩
  · refine .inr ?_
    have := ivc_vsw (vsw_isP he hv) h hx (by unfold vsw; rw [hy1, tau_at1]) (by unfold vsw; rw [hx1, tau_at])
    have e2 : vsw (vsw e v) v = e := by funext j; unfold vsw; exact tau_tau (n := n) (by omega)
    rw [e2] at this
    exact this.symm
/-- THE FORM OF THE WORD OF A PERMUTATION -/
theorem spw_form {n : Nat} (hn : 2 ≤ n ∧ n ≤ 6) {f : Nat → Nat} (hf : IsP f n) {k : Int} {m : Nat} {G : Fam} (h : St n (spw n f) k m G) : (isOne n f → k = 0 ∧ m = 0) ∧ (isTw n f → k = 1 ∧ m = 0) ∧ (¬ isOne n f → ¬ isTw n f → k = 0 ∧ m = 1) := by
  have hn6 := hn.2
  have hlen := spw_len hn6 _ f hf (Nat.le_refl _)
  have hend := spw_ends hn6 _ f hf (Nat.le_refl _)
  have hpos := spw_pos hn6 _ f hf (Nat.le_refl _)
  generalize spw n f = w at *
  have hlt : ∀ j, j < w.length → ∃ v : Nat, w.getD j 0 = (v : Int) + 1 ∧ v + 1 < n ∧ ltr (w.getD j 0) = v + 1 := fun j hj => by
    have := hpos (w.getD j 0) (by rw [getD_lt 0 hj]; exact List.getElem_mem hj)
    refine ⟨(w.getD j 0 - 1).toNat, by omega, by omega, ?_⟩
    unfold ltr absI; split <;> omega
  have hstep : ∀ j, j < w.length → ∀ v : Nat, ltr (w.getD j 0) = v + 1 → eAt w (j + 1) = vsw (eAt w j) v := fun j hj v hv => by
    funext s
    show tau (ltr (w.getD j 0)) (eAt w j s) = _
    rw [hv]; rfl
  have hP : ∀ j, j ≤ w.length → IsP (eAt w j) n := by
    intro j
    induction j with
    | zero => intro _; exact id_isP n
    | succ j ih =>
      intro hj
      obtain ⟨v, h1, h2, h3⟩ := hlt j hj
      rw [hstep j hj v h3]
      exact vsw_isP (ih (by omega)) h2
  have hup : ∀ j, j < w.length → ivc (eAt w (j + 1)) n ≤ ivc (eAt w j) n + 1 := fun j hj => by
    obtain ⟨v, h1, h2, h3⟩ := hlt j hj
    rw [hstep j hj v h3]
    rcases ivc_step (hP j (by omega)) h2 with ⟨_, _, _, _, _, _, h⟩ | h <;> omega
  have hlo : ∀ j, j ≤ w.length → ivc (eAt w j) n ≤ j := by
    intro j
    induction j with
    | zero => intro _; rw [show ivc (eAt w 0) n = 0 from ivc_id n]; omega
    | succ j ih => intro hj; have := ih (by omega); have := hup j hj; omega
  have hhi : ∀ d j, j + d = w.length → ivc (eAt w w.length) n ≤ ivc (eAt w j) n + d := by
    intro d
    induction d with
    | zero => intro j hj; rw [show j = w.length by omega]; omega
    | succ d ih => intro j hj; have := ih (j + 1) (by omega); have := hup j (by omega); omega
  have hfin : ivc (eAt w w.length) n = w.length := by rw [ivc_congr hend, hlen]
  have hiv : ∀ j, j ≤ w.length → ivc (eAt w j) n = j := fun j hj => by
    have := hhi (w.length - j) j (by omega)
    have := hlo j hj
    omega
  have key : ∀ j, j ≤ w.length → ∀ k m G, St n (w.take j) k m G → (j = 0 → k = 0 ∧ m = 0) ∧ (0 < j → One n (eAt w j) k m G) := by
    intro j
    induction j with
    | zero =>
      intro _ k m G hS
      rw [List.take_zero] at hS
      exact ⟨fun _ => st_nil hS, fun h => by omega⟩
    | succ j ih =>
      intro hj k m G hS
      refine ⟨fun h => by omega, fun _ => ?_⟩
      obtain ⟨v, h1, h2, h3⟩ := hlt j hj
      have htk : w.take (j + 1) = w.take j ++ [(v : Int) + 1] := by
        rw [← h1, getD_lt 0 hj, List.take_add_one, List.getElem?_eq_getElem hj]; rfl
      rw [htk] at hS
      obtain ⟨k0, m0, G0, s1, s2, s3, s4⟩ := st_snoc hS
      rw [if_pos (by omega)] at s4
      have hadd : addG n m0 G0 ((v : Int) + 1) = ovr G0 m0 (vsw id v) := by
        unfold addG
        rw [if_pos (by omega), show ((v : Int) + 1).natAbs - 1 = v by omega]
      rw [hadd] at s4
      obtain ⟨ih0, ih1⟩ := ih (by omega) k0 m0 G0 s1
      have hev := hstep j hj v h3
      by_cases hj0 : j = 0
      · obtain ⟨rfl, rfl⟩ := ih0 hj0
        subst hj0
        exact one_first hn.1 h2 (fun i _ => by rw [hev]; rfl) (ovr_same _ _ _) s4
      · have ho := ih1 (by omega)
        have hj1 := hiv (j + 1) hj
        have hnt : ¬ isTw n (eAt w j) := fun ht => by
          have a := ivc_hlf ht n (Nat.le_refl _)
          have b := ivc_le (eAt w (j + 1)) n
          rw [hiv j (by omega)] at a
          rw [hj1] at b
          omega
        obtain ⟨rfl, rfl, hG⟩ := ho.ot hnt
        rcases ivc_step (hP j (by omega)) h2 with ⟨x, y, hxy, hy, hx1, hy1, _⟩ | hbad
        · refine one_more hn.1 h2 (hP j (by omega)) hxy hy hx1 hy1 (fun i hi => by rw [ovr_ne _ _ (by omega)]; exact hG i hi) (ovr_same _ _ _) hnt (fun i _ => by rw [hev]) (fun h => ?_) s4
          have := ivc_one h
          omega
        · rw [← hev, hj1, hiv j (by omega)] at hbad; omega
  have hS : St n (w.take w.length) k m G := by rw [List.take_length]; exact h
  obtain ⟨k1, k2⟩ := key w.length (Nat.le_refl _) k m G hS
  have tr : isTw n (eAt w w.length) ↔ isTw n f := ⟨fun h i hi => by rw [← hend i hi]; exact h i hi, fun h i hi => by rw [hend i hi]; exact h i hi⟩
  refine ⟨fun h1 => ?_, fun h1 => ?_, fun h1 h2 => ?_⟩
  · exact k1 (by rw [hlen, ivc_one h1])
  · have hp : 0 < w.length := by
      rcases Nat.eq_zero_or_pos w.length with hz | hp
      · exfalso
        have a := ivc_hlf h1 n (Nat.le_refl _)
        rw [← hlen, hz] at a
        have : 2 * 1 ≤ n * (n - 1) := Nat.mul_le_mul hn.1 (by omega)
        omega
      · exact hp
    exact (k2 hp).tw (tr.2 h1)
  · have hp : 0 < w.length := by
      rcases Nat.eq_zero_or_pos w.length with hz | hp
      · exfalso
        apply h1
        intro i hi
        rw [← hend i hi, hz]; rfl
      · exact hp
    obtain ⟨a, b, _⟩ := (k2 hp).ot (fun h => h2 (tr.1 h))
    exact ⟨a, b⟩
end Go.Proofs.Ytgjfpmjllpgadaa
