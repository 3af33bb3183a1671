/- The plain law of TopCrossings: permutations of words, their signs. Nothing of the program is here. -/
import Derived.Test.YtgjfpmjllpgadaaGGarsideFormsAY
import Derived.Test.YtgjfpmjllpgadaaGGarsideFormsAD
import Derived.Test.YtgjfpmjllpgadaaGGarsideFormsBO
import Derived.Test.YtgjfpmjllpgadaaGGarsideFormsBV
set_option linter.unusedVariables false
set_option linter.unusedSimpArgs false
namespace Go.Proofs.Ytgjfpmjllpgadaa

theorem ivc_id : ∀ m, ivc (fun j => j) m = 0
  | 0 => rfl
  | m + 1 => by
    show ivc (fun j => j) m + cnt _ m = 0
    rw [ivc_id m, cnt_zero (fun k hk => by simp; omega)]
theorem Wd.isP {n : Nat} {w : List Int} (h : Wd n w) : ∀ k, k ≤ w.length → IsP (eAt w k) n := fun k hk =>
  ⟨fun i hi => h.e_lt k hk i hi, fun i j _ _ e => by
    have := congrArg (fAt w k) e
    rwa [h.fe k hk, h.fe k hk] at this⟩
end Go.Proofs.Ytgjfpmjllpgadaa

/- The word of a permutation: its length, where the strands go, its form. Plain facts: nothing of the program is here. -/
set_option linter.unusedVariables false
set_option linter.unusedSimpArgs false
namespace Go.Proofs.Ytgjfpmjllpgadaa

theorem cnt_tau {p : Nat → Bool} {i : Nat} : ∀ {m : Nat}, i + 1 < m → cnt (fun j => p (tau (i + 1) j)) m = cnt p m
  | m + 1, h => by
    by_cases e : i + 1 = m
    · subst e
      simp only [cnt, tau_at1, tau_at]
      rw [cnt_congr (p := fun j => p (tau (i + 1) j)) (q := p) (fun k hk => by rw [tau_ot (by omega) (by omega)])]
      omega
    · have e1 : tau (i + 1) m = m := tau_ot (by omega) (by omega)
      simp only [cnt, e1]
      rw [cnt_tau (by omega)]
/-- a descent less -/
theorem ivc_psw {f : Nat → Nat} {i : Nat} (hd : f (i + 1) < f i) : ∀ {m : Nat}, i + 1 < m → ivc (psw f i) m + 1 = ivc f m
  | m + 1, h => by
    by_cases e : i + 1 = m
    · subst e
      simp only [ivc, cnt, psw_at1, psw_at]
      have e1 : ivc (psw f i) i = ivc f i := ivc_congr (fun k hk => psw_ot (by omega) (by omega))
      have e2 : ∀ a : Nat, cnt (fun j => decide (a < psw f i j)) i = cnt (fun j => decide (a < f j)) i := fun a => cnt_congr (fun k hk => by rw [psw_ot (by omega) (by omega)])
      rw [e1, e2, e2]
      simp only [decide_eq_true_eq]
      rw [if_neg (by omega), if_pos hd]
      omega
    · have ih := ivc_psw hd (m := m) (by omega)
      have e0 : psw f i m = f m := psw_ot (by omega) (by omega)
      simp only [ivc, e0]
      have := cnt_tau (p := fun j => decide (f m < f j)) (i := i) (m := m) (by omega)
      have e2 : cnt (fun j => decide (f m < psw f i j)) m = cnt (fun j => decide (f m < f j)) m := this
      rw [e2]
      omega
theorem cnt_full (p : Nat → Bool) : ∀ m, cnt p m = m → ∀ k, k < m → p k = true
  | m + 1, h, k, hk => by
    have := cnt_le p m
    simp only [cnt] at h
    by_cases hp : p m = true
    · rw [if_pos hp] at h
      by_cases e : k = m
      · rw [e]; exact hp
      · exact cnt_full p m (by omega) k (by omega)
    · rw [if_neg hp] at h; omega
/-- no more inversions than the half twist has -/
theorem ivc_le (f : Nat → Nat) : ∀ m, 2 * ivc f m ≤ m * (m - 1)
  | 0 => by simp [ivc]
  | m + 1 => by
    have ih := ivc_le f m
    have := cnt_le (fun j => decide (f m < f j)) m
    simp only [ivc]
    cases m with
    | zero => simp [ivc] at ih ⊢; omega
    | succ m =>
      rw [Nat.add_sub_cancel] at ih ⊢
      have e : (m + 1 + 1) * (m + 1) = (m + 1) * m + 2 * (m + 1) := by rw [← Nat.mul_comm (m + 1), ← Nat.mul_comm (m + 1), ← Nat.mul_add]
      rw [e]; omega
/-- as many inversions: the half twist -/
theorem ivc_top {f : Nat → Nat} : ∀ m, 2 * ivc f m = m * (m - 1) → ∀ i j, i < j → j < m → f j < f i
  | m + 1, h, i, j, hij, hj => by
    have hl := ivc_le f m
    have hc := cnt_le (fun j => decide (f m < f j)) m
    simp only [ivc] at h
    have e : (m + 1) * (m + 1 - 1) = m * (m - 1) + 2 * m := by
      cases m with
      | zero => rfl
      | succ m => rw [Nat.add_sub_cancel, Nat.add_sub_cancel, ← Nat.mul_comm (m + 1), ← Nat.mul_comm (m + 1), ← Nat.mul_add]
    rw [e] at h
    by_cases e2 : j = m
    · subst e2
      have := cnt_full (fun k => decide (f j < f k)) j (by omega) i hij
      simpa using this
    · exact ivc_top m (by omega) i j hij (by omega)
theorem tw_of_top {n : Nat} {f : Nat → Nat} (hf : IsP f n) (h : 2 * ivc f n = n * (n - 1)) : isTw n f := by
  have hd := ivc_top n h
  have hP : IsP (fun j => f (n - 1 - j)) n := ⟨fun j hj => hf.lt _ (by omega), fun a b ha hb e => by have := hf.inj _ _ (by omega) (by omega) e; omega⟩
  have hid := inc_id hP (fun i hi hlt => by
    have hlt : f (n - 1 - (i + 1)) < f (n - 1 - i) := hlt
    have := hd (n - 1 - (i + 1)) (n - 1 - i) (by omega) (by omega)
    omega)
  intro i hi
  have h1 : f (n - 1 - (n - 1 - i)) = n - 1 - i := hid (n - 1 - i) (by omega)
  rw [show n - 1 - (n - 1 - i) = i by omega] at h1
  exact h1
theorem ivc_one {n : Nat} {f : Nat → Nat} (h : isOne n f) : ivc f n = 0 := by
  rw [ivc_congr (g := fun j => j) (fun k hk => h k hk), ivc_id]
/-- THE LENGTH OF THE WORD -/
theorem spw_len {n : Nat} (hn : n ≤ 6) : ∀ (N : Nat) (f : Nat → Nat), IsP f n → mu (tabN n f) ≤ N → (spw n f).length = ivc f n
  | 0, f, h, hm => by have := (isP_ent h hn).mu; omega
  | N + 1, f, h, hm => by
    cases hd : desc (tabN n f) with
    | none =>
      have hid : ∀ i, i < n → f i = i := inc_id h (fun i hi hlt => by obtain ⟨j, hj, _⟩ := desc_ex hi hlt; rw [hd] at hj; cases hj)
      rw [spw_congr hid, ivc_one hid]
      show (spw n id).length = 0
      rw [spw_id hn]; rfl
    | some j =>
      obtain ⟨j1, j2⟩ := desc_tab hd
      have mj := mu_psw h hn j1 j2
      rw [spw_some h hn hd, List.length_cons, spw_len hn N _ (psw_isP h j1) (by omega), ivc_psw j2 j1]
/-- the form of the first letters of the word of a permutation -/
structure One (n : Nat) (e : Nat → Nat) (k : Int) (m : Nat) (G : Fam) : Prop where
  tw : isTw n e → k = 1 ∧ m = 0
  ot : ¬ isTw n e → k = 0 ∧ m = 1 ∧ ∀ i, i < n → G 0 i = e i
theorem st_nil {n : Nat} {k : Int} {m : Nat} {G : Fam} (h : St n [] k m G) : k = 0 ∧ m = 0 := by
  generalize hw : ([] : List Int) = w at h
  cases h with
  | nil => exact ⟨rfl, rfl⟩
  | snoc => simp at hw
end Go.Proofs.Ytgjfpmjllpgadaa

/- No image on the way from a word to its normal form is too long. Plain facts: nothing of the program is here. -/
set_option linter.unusedVariables false
set_option linter.unusedSimpArgs false
namespace Go.Proofs.Ytgjfpmjllpgadaa

/-- after a, and after each letter of c, no image is longer than B -/
def PB (n : Int) (a c : List Int) (B : Nat) : Prop := ∀ t, t ≤ c.length → Lb n (a ++ c.take t) B
theorem PB.app {n : Int} {a u v : List Int} {B : Nat} (h1 : PB n a u B) (h2 : PB n (a ++ u) v B) : PB n a (u ++ v) B := fun t ht => by
  rw [List.length_append] at ht
  by_cases h : t ≤ u.length
  · rw [List.take_append_of_le_length h]; exact h1 t h
  · have := h2 (t - u.length) (by omega)
    rwa [List.append_assoc, show u ++ v.take (t - u.length) = (u ++ v).take t by rw [List.take_append, List.take_of_length_le (show u.length ≤ t by omega)]] at this
theorem PB.letters {n : Int} {a c : List Int} {A B : Nat} (ha : brd n a) (hc : brd n c) (h : Lb n a A) (hB : 2 ^ c.length * (A + 1) ≤ B + 1) : PB n a c B := fun t ht => by
  have hct : brd n (c.take t) := fun z hz => hc z (List.mem_of_mem_take hz)
  refine (h.more ha hct).mono ?_
  have h1 : (c.take t).length ≤ c.length := by rw [List.length_take]; omega
  have h2 : 2 ^ (c.take t).length * (A + 1) ≤ 2 ^ c.length * (A + 1) := Nat.mul_le_mul_right _ (Nat.pow_le_pow_right (by decide) h1)
  omega
theorem PB.nil {n : Int} {a : List Int} {B : Nat} (h : Lb n a B) : PB n a [] B := fun t _ => by simpa using h
def chkL (n : Nat) (w : List Int) (B : Nat) : Bool := (List.range n).all fun x => Nat.ble (img w [((x : Nat) : Int) + 1]).length B
theorem chk_lb {n : Nat} {w : List Int} {B : Nat} (h : chkL n w B = true) : Lb n w B := fun x hx => by
  unfold chkL at h
  rw [List.all_eq_true] at h
  have := h (x - 1).toNat (List.mem_range.2 (by omega))
  rw [show (((x - 1).toNat : Nat) : Int) + 1 = x by omega] at this
  exact Nat.le_of_ble_eq_true this
/-- the half twist, once and twice -/
theorem tw_lb {n : Nat} (h : 2 ≤ n ∧ n ≤ 6) : (Lb n (twN n) 11 ∧ Lb n (twN n ++ twN n) 13) ∧ (Lb n (invL (twN n)) 11 ∧ Lb n (invL (twN n) ++ invL (twN n)) 13) := by
  rcases le6 h with rfl | rfl | rfl | rfl | rfl <;> exact ⟨⟨chk_lb (by decide +kernel), chk_lb (by decide +kernel)⟩, chk_lb (by decide +kernel), chk_lb (by decide +kernel)⟩
theorem rp_lb {n : Int} {d : List Int} (hd : brd n d) (h1 : Lb n d 11) (h2 : Lb n (d ++ d) 13) : ∀ i, Lb n (rp d (2 * i)) (13 ^ i) ∧ Lb n (rp d (2 * i + 1)) (13 ^ i * 11)
  | 0 => ⟨Lb.nil, by
    have e : rp d (2 * 0 + 1) = d := by simp [rp]
    rw [e]
    exact h1.mono (by decide)⟩
  | i + 1 => by
    have ih := (rp_lb hd h1 h2 i).1
    have e : rp d (2 * (i + 1)) = rp d (2 * i) ++ (d ++ d) := by
      rw [show 2 * (i + 1) = 2 * i + 1 + 1 by omega]
      simp [rp]
    have k1 : Lb n (rp d (2 * (i + 1))) (13 ^ (i + 1)) := by
      rw [e, Nat.pow_succ]
      exact Lb.app (rp_brd hd _) (brd_app hd hd) ih h2
    refine ⟨k1, ?_⟩
    exact Lb.app (a := rp d (2 * (i + 1))) (rp_brd hd _) hd k1 h1
theorem rp_lb8 {n : Int} {d : List Int} (hd : brd n d) (h1 : Lb n d 11) (h2 : Lb n (d ++ d) 13) {j : Nat} (hj : j ≤ 8) : Lb n (rp d j) 28561 := by
  have k := fun i => rp_lb hd h1 h2 i
  rcases (show j = 0 ∨ j = 1 ∨ j = 2 ∨ j = 3 ∨ j = 4 ∨ j = 5 ∨ j = 6 ∨ j = 7 ∨ j = 8 by omega) with rfl | rfl | rfl | rfl | rfl | rfl | rfl | rfl | rfl
  · exact (k 0).1.mono (by decide)
  · exact (k 0).2.mono (by decide)
  · exact (k 1).1.mono (by decide)
  · exact (k 1).2.mono (by decide)
  · exact (k 2).1.mono (by decide)
  · exact (k 2).2.mono (by decide)
  · exact (k 3).1.mono (by decide)
  · exact (k 3).2.mono (by decide)
  · exact (k 4).1.mono (by decide)
theorem pb_rp {n : Int} {a d : List Int} {B : Nat} : ∀ j : Nat, (∀ i, i < j → PB n (a ++ rp d i) d B) → Lb n a B → PB n a (rp d j) B
  | 0, _, h => PB.nil h
  | j + 1, hs, h => (pb_rp j (fun i hi => hs i (by omega)) h).app (hs j (by omega))
/-- the factors from the i-th one on, inverted -/
theorem flat_lb {n : Nat} (hn : n ≤ 6) : ∀ {F : List (Nat → Nat)}, (∀ f ∈ F, IsP f n) → Lb n (invW (F.flatMap (spw n))) (11 ^ F.length)
  | [], _ => Lb.nil
  | f :: F, h => by
    have hf := h f (by simp)
    have hF := fun g hg => h g (List.mem_cons_of_mem f hg)
    rw [List.flatMap_cons, invW_app, List.length_cons, Nat.pow_succ]
    exact Lb.app (brd_inv (flat_brd hn hF)) (brd_inv (spw_br hn hf)) (flat_lb hn hF) (inv_lb hn hf)
theorem pb_flat {n : Nat} (hn : n ≤ 6) {B : Nat} : ∀ {F : List (Nat → Nat)} {a : List Int}, brd n a → (∀ f ∈ F, IsP f n ∧ (spw n f).length ≤ 14) → F.length ≤ 8 → WE n (a ++ F.flatMap (spw n)) [] → 3600000000000 ≤ B → PB n a (F.flatMap (spw n)) B
  | [], a, ha, _, _, hw, hB => by
    refine PB.nil ?_
    rw [List.flatMap_nil, List.append_nil] at hw
    exact (Lb.nil.we hw.symm).mono (by omega)
  | f :: F, a, ha, h, hl, hw, hB => by
    obtain ⟨hf, hlen⟩ := h f (by simp)
    have hF := fun g hg => h g (List.mem_cons_of_mem f hg)
    have hall : ∀ g ∈ f :: F, IsP g n := fun g hg => (h g hg).1
    have hbr := flat_brd hn hall
    -- what stands ahead is the inverse of what is left
    have hinv : WE n (invW ((f :: F).flatMap (spw n))) a := by
      have k1 := WE.right (invW ((f :: F).flatMap (spw n))) brd_nil hw
      rw [List.nil_append, List.append_assoc] at k1
      have k2 := WE.left a ha (WE.cancel hbr)
      rw [List.append_nil] at k2
      exact (k1.symm.trans k2)
    have e8 : 11 ^ (f :: F).length ≤ 214358881 := Nat.le_trans (Nat.pow_le_pow_right (by decide) hl) (by decide +kernel)
    have hla : Lb n a 214358881 := ((flat_lb hn hall).we hinv).mono e8
    rw [List.flatMap_cons] at hw ⊢
    refine PB.app (PB.letters ha (spw_br hn hf) hla ?_) (pb_flat hn (brd_app ha (spw_br hn hf)) hF (by simp at hl; omega) (by rw [List.append_assoc]; exact hw) hB)
    have h4 : 2 ^ (spw n f).length ≤ 16384 := Nat.le_trans (Nat.pow_le_pow_right (by decide) hlen) (by decide +kernel)
    generalize 2 ^ (spw n f).length = Z at *
    omega
theorem St.m_le {n : Nat} {w : List Int} {k : Int} {m : Nat} {G : Fam} (h : St n w k m G) : m ≤ w.length := by
  induction h with
  | nil G => simp
  | snoc h1 hx hx2 hs ih =>
    have := hs.bd
    rw [List.length_append, List.length_singleton]
    split at this <;> omega
theorem nt_len {n : Nat} (hn : n ≤ 6) {f : Nat → Nat} (hf : IsP f n) (h : ¬ isTw n f) : (spw n f).length ≤ 14 := by
  have h1 := spw_len hn _ f hf (Nat.le_refl _)
  have h2 := ivc_le f n
  have h3 : 2 * ivc f n ≠ n * (n - 1) := fun e => h (tw_of_top hf e)
  have h4 : n * (n - 1) ≤ 6 * 5 := Nat.mul_le_mul hn (by omega)
  omega
/-- ALL IMAGES ON THE WAY -/
theorem form_pb {n : Nat} (hn : 2 ≤ n ∧ n ≤ 6) {w : List Int} {k : Int} {m : Nat} {G : Fam} (h : St n w k m G) (hl : w.length ≤ 8) : PB n [] (invW w ++ fwd n k (lst m G)) 3600000000000 := by
  have hn6 := hn.2
  obtain ⟨q1, q2, q3, q4, q5⟩ := h.all hn6
  have hm := h.m_le
  have hbi := brd_inv q1
  have hil : (invW w).length = w.length := by simp [invW]
  obtain ⟨⟨t1, t2⟩, t3, t4⟩ := tw_lb hn
  have htb := spw_br hn6 (hlf_isP n)
  rw [← twN_eq] at htb
  have hd : brd n (twS n k) ∧ Lb n (twS n k) 11 ∧ Lb n (twS n k ++ twS n k) 13 ∧ (twS n k).length ≤ 15 := by
    have hl15 := (tw_len hn).2
    unfold twS
    split
    · exact ⟨by rw [invL_eq]; exact brd_inv htb, t3, t4, by rw [invL_len']; exact hl15⟩
    · exact ⟨htb, t1, t2, hl15⟩
  obtain ⟨d1, d2, d3, d4⟩ := hd
  have hwi : Lb n (invW w) 511 := by
    have := Lb.more (n := n) (a := []) (c := invW w) (A := 1) brd_nil hbi Lb.nil
    rw [List.nil_append] at this
    refine this.mono ?_
    have h2 : 2 ^ (invW w).length ≤ 2 ^ 8 := Nat.pow_le_pow_right (by decide) (by omega)
    omega
  refine PB.app (PB.letters brd_nil hbi Lb.nil ?_) ?_
  · have h2 : 2 ^ (invW w).length ≤ 2 ^ 8 := Nat.pow_le_pow_right (by decide) (by omega)
    omega
  rw [List.nil_append]
  have hdl : brd n (dlt n k) := dlt_brd hn6 k
  unfold fwd
  refine PB.app ?_ ?_
  · unfold dlt
    refine pb_rp _ (fun i hi => ?_) (hwi.mono (by omega))
    have hli := Lb.app hbi (rp_brd d1 i) hwi (rp_lb8 d1 d2 d3 (show i ≤ 8 by omega))
    refine PB.letters (brd_app hbi (rp_brd d1 i)) d1 hli ?_
    have h2 : 2 ^ (twS n k).length ≤ 2 ^ 15 := Nat.pow_le_pow_right (by decide) d4
    have h3 : 2 ^ (twS n k).length * (511 * 28561 + 1) ≤ 2 ^ 15 * (511 * 28561 + 1) := Nat.mul_le_mul_right _ h2
    omega
  · refine pb_flat hn6 (brd_app hbi hdl) (lst_all (P := fun f => IsP f n ∧ (spw n f).length ≤ 14) (fun i hi => ⟨q2.isP i hi, nt_len hn6 (q2.isP i hi) (q2.tw i hi)⟩)) (by rw [lst_len]; omega) ?_ (Nat.le_refl _)
    rw [List.append_assoc]
    have := WE.left (invW w) hbi q3
    exact this.symm.trans (WE.cancel' q1)
end Go.Proofs.Ytgjfpmjllpgadaa
