/- The letters of braids keep the order of reduced words: the theorem. Plain facts: nothing of the program is here. -/
import Derived.Test.YtgjfpmjllpgadaaGGarsideEqualsBU
set_option linter.unusedVariables false
set_option linter.unusedSimpArgs false
namespace Go.Proofs.Ytgjfpmjllpgadaa

theorem shape {n k : Int} (hk : 1 ≤ k) {p : List Int} (h : Wn n p) :
    ((p.headD 0 = k ∨ p.headD 0 = -k ∨ p.headD 0 = k + 1) → ∃ t, stp k p = k :: t ∧ (p.headD 0 = k → t.headD 0 = k + 1) ∧ (p.headD 0 = -k → t.headD 0 = -(k + 1)) ∧ (p.headD 0 = k + 1 → t.headD 0 ≠ -k ∧ t.headD 0 ≠ k + 1 ∧ t.headD 0 ≠ -(k + 1))) ∧
      ((p.headD 0 = -(k + 1) ∨ oth k (p.headD 0)) → ∃ t, ff k p = -k :: t ∧ (p.headD 0 = -(k + 1) → t.headD 0 = -k ∨ t.headD 0 = k + 1 ∨ t.headD 0 = -(k + 1)) ∧ (oth k (p.headD 0) → t.headD 0 = p.headD 0)) := by
  cases p with
  | nil =>
    refine ⟨fun h => ?_, fun h => ⟨[], rfl, fun h => ?_, fun _ => rfl⟩⟩
    · simp only [List.headD_nil] at h; omega
    · simp only [List.headD_nil] at h; omega
  | cons x p =>
    have hx := h.nz x (by simp)
    have H := hd_all hk p h.tail.rd h.tail.nz
    have hp := rd_head h.rd hx
    have E := eqs_of hk H hx hp
    simp only [List.headD_cons]
    refine ⟨fun h => ?_, fun h => ?_⟩
    · rcases h with h | h | h
      · exact ⟨_, (E.a h).1, fun _ => rfl, fun e => by omega, fun e => by omega⟩
      · exact ⟨_, (E.b h).1, fun e => by omega, fun _ => rfl, fun e => by omega⟩
      · exact ⟨_, (E.c h).1, fun e => by omega, fun e => by omega, fun _ => H.st3 hk (by omega)⟩
    · rcases h with h | h
      · exact ⟨_, (E.d h).2, fun _ => H.ff3 (by omega), fun e => by unfold oth at e; omega⟩
      · exact ⟨_, (E.e h).2, fun e => by unfold oth at h; omega, fun _ => rfl⟩
theorem inl_stp {n k : Int} (hk : 1 ≤ k ∧ k < n) {p : List Int} (h : Wn n p) : ∀ y ∈ stp k p, inl n y ∧ y ≠ 0 := fun y hy => by
  have := inr_stp (n := n) (y := k) (by omega) (fun z hz => ⟨(h.le z hz).2, (h.le z hz).1.1, (h.le z hz).1.2⟩) y hy
  exact ⟨⟨this.2.1, this.2.2⟩, this.1⟩
theorem inl_ff {n k : Int} (hk : 1 ≤ k ∧ k < n) {p : List Int} (h : Wn n p) : ∀ y ∈ ff k p, inl n y ∧ y ≠ 0 := by
  unfold ff consR
  split
  · exact fun y hy => inl_stp hk h y (List.mem_of_mem_tail hy)
  · intro y hy
    rcases List.mem_cons.1 hy with rfl | hy
    · exact ⟨by unfold inl; omega, by omega⟩
    · exact inl_stp hk h y hy
theorem inl_hd {n : Int} (hn : 0 ≤ n) {s : List Int} (h : ∀ y ∈ s, inl n y ∧ y ≠ 0) : inl n (s.headD 0) := by
  cases s with
  | nil => unfold inl; simp only [List.headD_nil]; omega
  | cons x s => exact (h x (by simp)).1
theorem lt_hds {n z : Int} (hn : 0 ≤ n) (hz : inl n z) {s t : List Int} (hs : ∀ y ∈ s, inl n y ∧ y ≠ 0) (ht : ∀ y ∈ t, inl n y ∧ y ≠ 0) (h : cyc (plcL n (-z)) (plcL n (s.headD 0)) (plcL n (t.headD 0))) : lt n z s t :=
  lt_heads (fun x hx => (hs x hx).2) (fun x hx => (ht x hx).2) ((rank_cyc hz (inl_hd hn hs) (inl_hd hn ht)).2 h)
theorem pk_at {n k x : Int} (hk : 1 ≤ k) (hkn : k < n) (hx : inl n x) (e : plcL n x = 2 * k - 2) : x = k := pos_inj hx (by unfold inl; omega) (e.trans (pos_k hk).symm)
theorem pnk_at {n k x : Int} (hk : 1 ≤ k) (hkn : k < n) (hx : inl n x) (e : plcL n x = 2 * k - 1) : x = -k := pos_inj hx (by unfold inl; omega) (e.trans (pos_nk hk).symm)
theorem pk1_at {n k x : Int} (hk : 1 ≤ k) (hkn : k < n) (hx : inl n x) (e : plcL n x = 2 * k) : x = k + 1 := pos_inj hx (by unfold inl; omega) (e.trans (by rw [pos_k (by omega)]; omega))
theorem pnk1_at {n k x : Int} (hk : 1 ≤ k) (hkn : k < n) (hx : inl n x) (e : plcL n x = 2 * k + 1) : x = -(k + 1) := pos_inj hx (by unfold inl; omega) (e.trans (by rw [pos_nk (by omega)]; omega))
theorem poth_at {n k x : Int} (hk : 1 ≤ k) (h : plcL n x < 2 * k - 2 ∨ 2 * k + 1 < plcL n x) : oth k x := by
  have a1 := pos_k (n := n) hk
  have a2 := pos_nk (n := n) hk
  have a3 := pos_k (n := n) (show 1 ≤ k + 1 by omega)
  have a4 := pos_nk (n := n) (show 1 ≤ k + 1 by omega)
  refine ⟨fun e => ?_, fun e => ?_, fun e => ?_, fun e => ?_⟩
  all_goals subst e
  all_goals omega
theorem p3_at {n k x : Int} (hk : 1 ≤ k) (hkn : k < n) (hx : inl n x) (h : 2 * k - 2 ≤ plcL n x ∧ plcL n x ≤ 2 * k) : x = k ∨ x = -k ∨ x = k + 1 := by
  rcases (show plcL n x = 2 * k - 2 ∨ plcL n x = 2 * k - 1 ∨ plcL n x = 2 * k by omega) with e | e | e
  · exact .inl (pk_at hk hkn hx e)
  · exact .inr (.inl (pnk_at hk hkn hx e))
  · exact .inr (.inr (pk1_at hk hkn hx e))
theorem p4_at {n k x : Int} (hk : 1 ≤ k) (hkn : k < n) (hx : inl n x) (h : plcL n x < 2 * k - 2 ∨ 2 * k < plcL n x) : x = -(k + 1) ∨ oth k x := by
  by_cases e : plcL n x = 2 * k + 1
  · exact .inl (pnk1_at hk hkn hx e)
  · exact .inr (poth_at (n := n) hk (by omega))
theorem p_out {n k x : Int} (hk : 1 ≤ k) (hkn : k < n) (hx : inl n x) (h : x ≠ -k ∧ x ≠ k + 1 ∧ x ≠ -(k + 1)) : plcL n x < 2 * k - 1 ∨ 2 * k + 1 < plcL n x := by
  have c1 : plcL n x ≠ 2 * k - 1 := fun e => h.1 (pnk_at hk hkn hx e)
  have c2 : plcL n x ≠ 2 * k := fun e => h.2.1 (pk1_at hk hkn hx e)
  have c3 : plcL n x ≠ 2 * k + 1 := fun e => h.2.2 (pnk1_at hk hkn hx e)
  omega
theorem p_in {n k x : Int} (hk : 1 ≤ k) (h : x = -k ∨ x = k + 1 ∨ x = -(k + 1)) : 2 * k - 1 ≤ plcL n x ∧ plcL n x ≤ 2 * k + 1 := by
  rcases h with rfl | rfl | rfl
  · rw [pos_nk hk]; omega
  · rw [pos_k (by omega)]; omega
  · rw [pos_nk (by omega)]; omega
theorem oth_ne {k x : Int} (hk : 1 ≤ k) (h : x = k ∨ x = -k ∨ x = k + 1) : x ≠ -(k + 1) := by omega
theorem mon_diff {n k : Int} (hk : 1 ≤ k) (hkn : k < n) {p q : List Int} (hp : Wn n p) (hq : Wn n q) {z zb : Int} (hz : inl n z) (hzb : inl n zb) (hcp : z = 0 ∨ p.headD 0 ≠ -z) (hcq : z = 0 ∨ q.headD 0 ≠ -z) (h : lt n z p q) (hne : p.headD 0 ≠ q.headD 0) :
    (Z0 k z zb → lt n zb (stp k p) (stp k q)) ∧ (Z1 k z zb → lt n zb (ff k p) (ff k q)) := by
  have hn : 0 ≤ n := by omega
  have ip := hp.head hn
  have iq := hq.head hn
  have hc := (rank_cyc hz ip iq).1 (lt_hd h hne)
  have hpne : plcL n (p.headD 0) ≠ plcL n (q.headD 0) := fun e => hne (pos_inj ip iq e)
  have sp := inl_stp ⟨hk, hkn⟩ hp
  have sq := inl_stp ⟨hk, hkn⟩ hq
  have fp := inl_ff ⟨hk, hkn⟩ hp
  have fq := inl_ff ⟨hk, hkn⟩ hq
  have Hp := hd_all hk p hp.rd hp.nz
  have Hq := hd_all hk q hq.rd hq.nz
  have kpos : plcL n k = 2 * k - 2 := pos_k hk
  have nkpos : plcL n (-k) = 2 * k - 1 := pos_nk hk
  have k1pos : plcL n (k + 1) = 2 * k := by rw [pos_k (by omega)]; omega
  have nk1pos : plcL n (-(k + 1)) = 2 * k + 1 := by rw [pos_nk (by omega)]; omega
  have hzp : ∀ a, inl n a → a ≠ -z → plcL n a ≠ plcL n (-z) := fun a ha hne e => hne (pos_inj ha (inl_neg hz) e)
  have ik : inl n k := by unfold inl; omega
  have ink : inl n (-k) := by unfold inl; omega
  refine ⟨fun hz0 => ?_, fun hz1 => ?_⟩
  · have hP := z0_pos hk hkn hz hz0
    by_cases hb : (2 * k - 2 ≤ plcL n (p.headD 0) ∧ plcL n (p.headD 0) ≤ 2 * k) ∧ (2 * k - 2 ≤ plcL n (q.headD 0) ∧ plcL n (q.headD 0) ≤ 2 * k)
    · obtain ⟨t1, e1, a1, b1, c1⟩ := (shape hk hp).1 (p3_at hk hkn ip hb.1)
      obtain ⟨t2, e2, a2, b2, c2⟩ := (shape hk hq).1 (p3_at hk hkn iq hb.2)
      have st1 : ∀ y ∈ t1, inl n y ∧ y ≠ 0 := fun y hy => sp y (by rw [e1]; simp [hy])
      have st2 : ∀ y ∈ t2, inl n y ∧ y ≠ 0 := fun y hy => sq y (by rw [e2]; simp [hy])
      have i1 := inl_hd hn st1
      have i2 := inl_hd hn st2
      rw [e1, e2]
      refine lt_cons (lt_hds hn ik st1 st2 ?_)
      rw [nkpos]
      exact cyc_b hc hP (fun e => by rw [a1 (pk_at hk hkn ip e)]; exact k1pos) (fun e => by rw [b1 (pnk_at hk hkn ip e)]; exact nk1pos) (fun e => p_out hk hkn i1 (c1 (pk1_at hk hkn ip e)))
        (fun e => by rw [a2 (pk_at hk hkn iq e)]; exact k1pos) (fun e => by rw [b2 (pnk_at hk hkn iq e)]; exact nk1pos) (fun e => p_out hk hkn i2 (c2 (pk1_at hk hkn iq e))) hpne hb
    · have i1 := inl_hd hn sp
      have i2 := inl_hd hn sq
      have hz2 : ∀ a, inl n a → (z = 0 ∨ a ≠ -z) → plcL n a ≠ plcL n (-z) ∨ plcL n (-z) < 2 * k - 2 ∨ 2 * k + 1 < plcL n (-z) := fun a ha hh => by
        by_cases c : z = 0
        · subst c
          have : plcL n (-0) = 2 * n := by unfold plcL; rw [if_neg (by omega), if_neg (by omega)]
          rw [this]; omega
        · exact .inl (hzp a ha (by omega))
      exact lt_hds hn hzb sp sq (cyc_a hc (hz2 _ ip hcp) (hz2 _ iq hcq) hP
        (fun e => by have e := p3_at hk hkn ip e; rw [Hp.a (oth_ne hk e) e]; exact kpos) (fun e => p_in hk (Hp.c (pnk1_at hk hkn ip e))) (fun e => by rw [Hp.b (poth_at (n := n) hk e)])
        (fun e => by have e := p3_at hk hkn iq e; rw [Hq.a (oth_ne hk e) e]; exact kpos) (fun e => p_in hk (Hq.c (pnk1_at hk hkn iq e))) (fun e => by rw [Hq.b (poth_at (n := n) hk e)]) hpne hb)
  · have hP := z1_pos hk hkn hzb hz1
    have hz0 : z ≠ 0 := by unfold Z1 at hz1; omega
    by_cases hb : (plcL n (p.headD 0) < 2 * k - 2 ∨ 2 * k < plcL n (p.headD 0)) ∧ (plcL n (q.headD 0) < 2 * k - 2 ∨ 2 * k < plcL n (q.headD 0))
    · obtain ⟨t1, e1, a1, b1⟩ := (shape hk hp).2 (p4_at hk hkn ip hb.1)
      obtain ⟨t2, e2, a2, b2⟩ := (shape hk hq).2 (p4_at hk hkn iq hb.2)
      have st1 : ∀ y ∈ t1, inl n y ∧ y ≠ 0 := fun y hy => fp y (by rw [e1]; simp [hy])
      have st2 : ∀ y ∈ t2, inl n y ∧ y ≠ 0 := fun y hy => fq y (by rw [e2]; simp [hy])
      rw [e1, e2]
      refine lt_cons (lt_hds hn ink st1 st2 ?_)
      rw [Int.neg_neg, kpos]
      exact cyc_d hc hP (fun e => p_in hk (a1 (pnk1_at hk hkn ip e))) (fun e => by rw [b1 (poth_at (n := n) hk e)]) (fun e => p_in hk (a2 (pnk1_at hk hkn iq e))) (fun e => by rw [b2 (poth_at (n := n) hk e)]) hpne hb
    · have i1 := inl_hd hn fp
      have i2 := inl_hd hn fq
      exact lt_hds hn hzb fp fq (cyc_c hc (hzp _ ip (hcp.resolve_left hz0)) (hzp _ iq (hcq.resolve_left hz0)) hP
        (fun e => by rw [Hp.d (pk_at hk hkn ip e)]; exact k1pos) (fun e => by rw [Hp.e (pnk_at hk hkn ip e)]; exact nk1pos) (fun e => p_out hk hkn i1 (Hp.f (pk1_at hk hkn ip e))) (fun e => by rw [Hp.g (p4_at hk hkn ip e)]; exact nkpos)
        (fun e => by rw [Hq.d (pk_at hk hkn iq e)]; exact k1pos) (fun e => by rw [Hq.e (pnk_at hk hkn iq e)]; exact nk1pos) (fun e => p_out hk hkn i2 (Hq.f (pk1_at hk hkn iq e))) (fun e => by rw [Hq.g (p4_at hk hkn iq e)]; exact nkpos) hpne hb)
/-- THE LETTERS KEEP THE ORDER -/
theorem mon {n k : Int} (hk : 1 ≤ k) (hkn : k < n) : ∀ (p q : List Int), Wn n p → Wn n q → ∀ z zb, inl n z → inl n zb → (z = 0 ∨ p.headD 0 ≠ -z) → (z = 0 ∨ q.headD 0 ≠ -z) → lt n z p q →
    (Z0 k z zb → lt n zb (stp k p) (stp k q)) ∧ (Z1 k z zb → lt n zb (ff k p) (ff k q)) := by
  intro p
  induction p with
  | nil =>
    intro q hp hq z zb hz hzb hcp hcq h
    have hne : ([] : List Int).headD 0 ≠ q.headD 0 := by
      cases q with
      | nil => exact absurd h (by simp [lt])
      | cons y q => simpa using (fun e => hq.nz y (by simp) e.symm)
    exact mon_diff hk hkn hp hq hz hzb hcp hcq h hne
  | cons x p ih =>
    intro q hp hq z zb hz hzb hcp hcq h
    by_cases hne : (x :: p).headD 0 = q.headD 0
    · cases q with
      | nil => exact absurd hne (by simpa using hp.nz x (by simp))
      | cons y q =>
        simp only [List.headD_cons] at hne
        subst hne
        unfold lt at h
        rw [if_pos rfl] at h
        have hx := hp.nz x (by simp)
        have hxi := (hp.le x (by simp)).1
        have hp1 := rd_head hp.rd hx
        have hq1 := rd_head hq.rd hx
        have Ep := eqs_of hk (hd_all hk p hp.tail.rd hp.tail.nz) hx hp1
        have Eq := eqs_of hk (hd_all hk q hq.tail.rd hq.tail.nz) hx hq1
        have IH := fun zb hzb => ih q hp.tail hq.tail x zb hxi hzb (.inr hp1) (.inr hq1) h
        simp only [List.headD_cons] at hcp hcq
        have ik1 : inl n (k + 1) := by unfold inl; omega
        have ink1 : inl n (-(k + 1)) := by unfold inl; omega
        have ik : inl n k := by unfold inl; omega
        have ink : inl n (-k) := by unfold inl; omega
        rcases cls_cases k x with e | e | e | e | e
        · rw [(Ep.a e).1, (Ep.a e).2, (Eq.a e).1, (Eq.a e).2]
          have := (IH (k + 1) ik1).2 (.inl ⟨e, rfl⟩)
          exact ⟨fun _ => lt_cons (lt_cons this), fun _ => lt_cons this⟩
        · rw [(Ep.b e).1, (Ep.b e).2, (Eq.b e).1, (Eq.b e).2]
          have := (IH (-(k + 1)) ink1).2 (.inr (.inl ⟨e, rfl⟩))
          exact ⟨fun _ => lt_cons (lt_cons this), fun _ => lt_cons this⟩
        · rw [(Ep.c e).1, (Ep.c e).2, (Eq.c e).1, (Eq.c e).2]
          refine ⟨fun _ => lt_cons ((IH k ik).1 (.inl ⟨e, .inl rfl⟩)), fun hz1 => ?_⟩
          rcases hz1 with ⟨_, rfl⟩ | ⟨_, rfl⟩ | ⟨e2, _⟩
          · exact (IH _ ik1).1 (.inl ⟨e, .inr (.inl rfl)⟩)
          · exact (IH _ ink1).1 (.inl ⟨e, .inr (.inr rfl)⟩)
          · omega
        · rw [(Ep.d e).1, (Ep.d e).2, (Eq.d e).1, (Eq.d e).2]
          refine ⟨fun hz0 => ?_, fun _ => lt_cons ((IH (-k) ink).2 (.inr (.inr ⟨e, .inl rfl⟩)))⟩
          rcases hz0 with ⟨e2, _⟩ | ⟨e2, ho⟩
          · omega
          · exact (IH zb hzb).2 (.inr (.inr ⟨e, .inr (by rw [← e2]; exact ho)⟩))
        · rw [(Ep.e e).1, (Ep.e e).2, (Eq.e e).1, (Eq.e e).2]
          have := (IH x hxi).1 (.inr ⟨rfl, e⟩)
          exact ⟨fun _ => lt_cons this, fun _ => lt_cons (lt_cons this)⟩
    · exact mon_diff hk hkn hp hq hz hzb hcp hcq h hne
end Go.Proofs.Ytgjfpmjllpgadaa
