/- A word that maps every generator to itself is equal to the empty word as a braid. Plain facts: nothing of the program is here. -/
import Derived.Test.YtgjfpmjllpgadaaGGarsideEqualsBW
set_option linter.unusedVariables false
set_option linter.unusedSimpArgs false
namespace Go.Proofs.Ytgjfpmjllpgadaa

/-- THE CASE THAT PLANE CURVES FORBID -/
theorem no_ab {n i : Int} (hn : n ≤ 6) (hi : 1 ≤ i) (hi2 : i + 1 < n) {w : List Int} (ok : brd n w) {A B D : List Int} {a b d : Int} (r1 : prg w i = cjw A a) (r2 : prg w (i + 1) = cjw B b) (r3 : prg w (i + 2) = cjw D d) (a1 : Arm A a) (a2 : Arm B b) (a3 : Arm D d) (a0 : 1 ≤ a) {A' D' : List Int} (hA : A = B ++ b :: A') (hD : D = B ++ -b :: D') : False := by
  have q1 : Rp w i A a := by unfold Rp; rw [red_of_rd a1.rd]; exact r1
  have q2 : Rp w (i + 1) B b := by unfold Rp; rw [red_of_rd a2.rd]; exact r2
  have okn : brd n (-i :: w) := brd_cons (by omega) ok
  have v1 : prg (-i :: w) i = cjw B b := by rw [prg_neg hi, if_pos rfl, r2]
  have v3 : prg (-i :: w) (i + 2) = cjw D d := by rw [prg_neg hi, if_neg (by omega), if_neg (by omega), r3]
  obtain ⟨G, hG⟩ : ∃ G, G = arm (upw B (-b) A) a := ⟨_, rfl⟩
  have v2 : prg (-i :: w) (i + 1) = cjw G a := by rw [hG, ← red_arm (by omega)]; exact q1.neg_j hi q2
  have o12 := img_ord okn (x := i) (y := i + 1) hi (by omega) (by omega)
  have o23 := img_ord okn (x := i + 1) (y := i + 2) (by omega) (by omega) (by omega)
  have o23' := img_ord2 okn (x := i + 1) (y := i + 2) (by omega) (by omega) (by omega)
  rw [img_one okn (j := i) (by omega), img_one okn (j := i + 1) (by omega), v1, v2, inv_cjw, inv_cjw] at o12
  rw [img_one okn (j := i + 1) (by omega), img_one okn (j := i + 2) (by omega), v2, v3, inv_cjw] at o23
  rw [img_one okn (j := i + 1) (by omega), img_one okn (j := i + 2) (by omega), v2, v3] at o23'
  have e1 : cjw B (-b) = (B ++ [-b]) ++ invW B := by simp [cjw]
  have e3 : cjw D d = (B ++ [-b]) ++ (D' ++ d :: invW D) := by
    have : ∀ X : List Int, D ++ X = (B ++ [-b]) ++ (D' ++ X) := fun X => by rw [hD]; simp
    exact this _
  rw [e1] at o12
  rw [e3] at o23 o23'
  obtain ⟨x1, h1⟩ := lt_conv o12.1 o23'
  obtain ⟨x2, h2⟩ := lt_conv o12.2 o23.1
  have hlen : (B ++ [-b]).length ≤ G.length := by
    refine Nat.le_of_not_lt (fun hl => ?_)
    have g1 : (cjw G a)[G.length]? = some a := by unfold cjw; simp
    have g2 : (cjw G (-a))[G.length]? = some (-a) := by unfold cjw; simp
    rw [h1, List.getElem?_append_left hl] at g1
    rw [h2, List.getElem?_append_left hl, g1] at g2
    simp only [Option.some.injEq] at g2
    omega
  obtain ⟨G', hG'⟩ : ∃ G', G = (B ++ [-b]) ++ G' := by
    have := congrArg (List.take (B ++ [-b]).length) h1
    rw [List.take_left', show cjw G a = G ++ a :: invW G from rfl, List.take_append_of_le_length hlen] at this
    · exact ⟨G.drop (B ++ [-b]).length, by conv => rhs; rw [← this]; rw [List.length_take_of_le hlen, List.take_append_drop]⟩
    · rfl
  have lG : G.length = B.length + 1 + G'.length := by rw [hG']; simp; omega
  have lA : A.length = B.length + 1 + A'.length := by rw [hA]; simp; omega
  have c1 : G.length ≤ B.length + A'.length := by
    have : arm (upw B (-b) A) a = arm (B ++ A') a := arm_eqv (by omega) (red_cjw (by rw [hA]; exact upw_cutN A'))
    rw [hG, this, ← List.length_append]
    exact arm_len _ _
  have p1 : Rp (-i :: w) i B b := q2.neg_i hi
  have p2 : Rp (-i :: w) (i + 1) G a := by
    unfold Rp
    rw [v2, red_of_rd]
    rw [hG]
    exact (arm_arm (by omega) _).rd
  have p3 := (p1.pos_i hi p2).eqv (show red _ = red (B ++ G') by rw [hG', List.append_assoc]; exact upw_cut _)
  have c2 := p3.len
  have e : BE n (i :: -i :: w) w := BE.can (by omega) w
  rw [e.prg hn (brd_cons (by omega) okn) (by omega), r1, cjw_len, List.length_append] at c2
  omega
/-- words that lead down -/
inductive Rdc (n : Int) : List Int → List Int → Prop
  | stop {t : List Int} : (∀ y : Int, y ≠ 0 ∧ y < n ∧ -n < y → ¬ tot n (y :: t) < tot n t) → Rdc n t t
  | step {y : Int} {w t : List Int} : y ≠ 0 ∧ y < n ∧ -n < y → tot n (y :: w) < tot n w → Rdc n (y :: w) t → Rdc n w t
theorem Rdc.ex {n : Int} : ∀ (N : Nat) (w : List Int), tot n w ≤ N → ∃ t, Rdc n w t := by
  intro N
  induction N with
  | zero => exact fun w hw => ⟨w, .stop (fun y _ => by omega)⟩
  | succ N ih =>
    intro w hw
    by_cases h : ∃ y : Int, (y ≠ 0 ∧ y < n ∧ -n < y) ∧ tot n (y :: w) < tot n w
    · obtain ⟨y, hy, hl⟩ := h
      obtain ⟨t, ht⟩ := ih (y :: w) (by omega)
      exact ⟨t, .step hy hl ht⟩
    · exact ⟨w, .stop (fun y hy hl => h ⟨y, hy, hl⟩)⟩
theorem Rdc.move {n : Int} (hn : n ≤ 6) {w t : List Int} (h : Rdc n w t) : ∀ w', brd n w → BE n w w' → ∃ t', Rdc n w' t' ∧ BE n t t' := by
  induction h with
  | stop h =>
    intro w' ok e
    refine ⟨w', .stop (fun y hy => ?_), e⟩
    rw [← tot_be hn (e.cons y) (brd_cons hy ok), ← tot_be hn e ok]
    exact h y hy
  | step hy hl _ ih =>
    rename_i y w t _
    intro w' ok e
    obtain ⟨t', h1, h2⟩ := ih (y :: w') (brd_cons hy ok) (e.cons y)
    exact ⟨t', .step hy (by rw [← tot_be hn (e.cons y) (brd_cons hy ok), ← tot_be hn e ok]; exact hl) h1, h2⟩
/-- a letter changes the sum: it grows unless the one arm begins with the other -/
theorem up_or {n i : Int} (hi : 1 ≤ i) (hi2 : i < n) {w : List Int} {A : Int → List Int} {a : Int → Int} (H : Ars n w A a) :
    ((∃ B', A (i + 1) = A i ++ -(a i) :: B') ∧ tot n (i :: w) < tot n w ∨ (¬ ∃ B', A (i + 1) = A i ++ -(a i) :: B') ∧ tot n w < tot n (i :: w)) ∧
      ((∃ A', A i = A (i + 1) ++ a (i + 1) :: A') ∧ tot n (-i :: w) < tot n w ∨ (¬ ∃ A', A i = A (i + 1) ++ a (i + 1) :: A') ∧ tot n w < tot n (-i :: w)) := by
  have r1 := H.rp i (by omega)
  have r2 := H.rp (i + 1) (by omega)
  have g1 := H.arm i (by omega)
  have g2 := H.arm (i + 1) (by omega)
  have p1 := H.pos i (by omega)
  have p2 := H.pos (i + 1) (by omega)
  have q1 := H.Rp (j := i) (by omega)
  have q2 := H.Rp (j := i + 1) (by omega)
  have hne : a i ≠ a (i + 1) := fun e => by have := H.inj i (i + 1) (by omega) (by omega) e; omega
  have l1 : ln w i = 2 * (A i).length + 1 := by unfold ln; rw [r1, cjw_len]
  have l2 : ln w (i + 1) = 2 * (A (i + 1)).length + 1 := by unfold ln; rw [r2, cjw_len]
  have t1 := tot_two (n := n) (y := i) (w := w) (by omega) (i := i) (by omega)
  have t2 := tot_two (n := n) (y := -i) (w := w) (by omega) (i := i) (by omega)
  have u1 : ln (i :: w) i = 2 * (arm (upw (A i) (a i) (A (i + 1))) (a (i + 1))).length + 1 := by
    unfold ln
    rw [show prg (i :: w) i = _ from q1.pos_i hi q2, red_arm (by omega), cjw_len]
  have u2 : ln (i :: w) (i + 1) = ln w i := by unfold ln; rw [prg_pos hi, if_neg (by omega), if_pos rfl]
  have v1 : ln (-i :: w) i = ln w (i + 1) := by unfold ln; rw [prg_neg hi, if_pos rfl]
  have v2 : ln (-i :: w) (i + 1) = 2 * (arm (upw (A (i + 1)) (-(a (i + 1))) (A i)) (a i)).length + 1 := by
    unfold ln
    rw [show prg (-i :: w) (i + 1) = _ from q1.neg_j hi q2, red_arm (by omega), cjw_len]
  constructor
  · by_cases c : ∃ B', A (i + 1) = A i ++ -(a i) :: B'
    · refine .inl ⟨c, ?_⟩
      obtain ⟨B', hB⟩ := c
      have e : arm (upw (A i) (a i) (A (i + 1))) (a (i + 1)) = arm (A i ++ B') (a (i + 1)) := arm_eqv (by omega) (red_cjw (by rw [hB]; exact upw_cut B'))
      have := arm_len (A i ++ B') (a (i + 1))
      rw [← e, List.length_append] at this
      have lB := congrArg List.length hB
      simp only [List.length_append, List.length_cons] at lB
      omega
    · have := arm_grow g1 g2 (by omega) (fun B' e => c ⟨B', e⟩)
      exact .inr ⟨c, by omega⟩
  · by_cases c : ∃ A', A i = A (i + 1) ++ a (i + 1) :: A'
    · refine .inl ⟨c, ?_⟩
      obtain ⟨A', hA⟩ := c
      have e : arm (upw (A (i + 1)) (-(a (i + 1))) (A i)) (a i) = arm (A (i + 1) ++ A') (a i) := arm_eqv (by omega) (red_cjw (by rw [hA]; exact upw_cutN A'))
      have := arm_len (A (i + 1) ++ A') (a i)
      rw [← e, List.length_append] at this
      have lA := congrArg List.length hA
      simp only [List.length_append, List.length_cons] at lA
      omega
    · have := arm_grow g2.neg g1 (by omega) (fun A' e => c ⟨A', by rw [e, Int.neg_neg]⟩)
      exact .inr ⟨c, by omega⟩
theorem tot_ne {n y : Int} (hy : y ≠ 0 ∧ y < n ∧ -n < y) {w : List Int} (ok : brd n w) : tot n (y :: w) ≠ tot n w := by
  obtain ⟨A, a, H⟩ := arms w ok
  rcases Int.lt_or_gt_of_ne hy.1 with c | c
  · obtain ⟨i, rfl⟩ : ∃ i, y = -i := ⟨-y, by omega⟩
    rcases (up_or (i := i) (by omega) (by omega) H).2 with h | h
    · have := h.2; omega
    · have := h.2; omega
  · rcases (up_or (i := y) (by omega) (by omega) H).1 with h | h
    · have := h.2; omega
    · have := h.2; omega
/-- the words below a peak are joined by a path below it -/
theorem peak {n : Int} (hn : n ≤ 6) {w : List Int} (ok : brd n w) {y z : Int} (hy : y ≠ 0 ∧ y < n ∧ -n < y) (hz : z ≠ 0 ∧ z < n ∧ -n < z) (h1 : tot n (y :: w) < tot n w) (h2 : tot n (z :: w) < tot n w) : Bel n (tot n w) (y :: w) (z :: w) := by
  obtain ⟨A, a, H⟩ := arms w ok
  by_cases e : y = z
  · subst e
    exact .be (BE.refl _) (brd_cons hy ok) h1
  by_cases e2 : y = -z
  · exfalso
    have key : ∀ i : Int, 1 ≤ i → i < n → tot n (i :: w) < tot n w → tot n (-i :: w) < tot n w → False := fun i hi hi2 h1 h2 => by
      obtain ⟨k1, k2⟩ := up_or hi hi2 H
      rcases k1 with ⟨⟨B', hB⟩, _⟩ | ⟨_, k1⟩
      · rcases k2 with ⟨⟨A', hA⟩, _⟩ | ⟨_, k2⟩
        · have l1 := congrArg List.length hB
          have l2 := congrArg List.length hA
          simp only [List.length_append, List.length_cons] at l1 l2
          omega
        · omega
      · omega
    rcases Int.lt_or_gt_of_ne hz.1 with c | c
    · exact key y (by omega) (by omega) h1 (by rw [e2, Int.neg_neg]; exact h2)
    · exact key z (by omega) (by omega) h2 (by rw [← e2]; exact h1)
  by_cases e3 : y.natAbs + 2 ≤ z.natAbs ∨ z.natAbs + 2 ≤ y.natAbs
  · have t1 := tot_two (n := n) (y := y) (w := w) hy (i := y.natAbs) rfl
    have t2 := tot_two (n := n) (y := y) (w := z :: w) hy (i := y.natAbs) rfl
    have o1 := ln_oth (y := z) (j := y.natAbs) (w := w) hz.1 (by omega) (by omega)
    have o2 := ln_oth (y := z) (j := y.natAbs + 1) (w := w) hz.1 (by omega) (by omega)
    have e := BE.farS hy hz e3 w
    have okz : brd n (z :: w) := brd_cons hz ok
    have oky : brd n (y :: w) := brd_cons hy ok
    have oo1 := ln_oth (y := z) (j := y.natAbs) (w := y :: w) hz.1 (by omega) (by omega)
    have oo2 := ln_oth (y := z) (j := y.natAbs + 1) (w := y :: w) hz.1 (by omega) (by omega)
    have f1 : ln (y :: z :: w) y.natAbs = ln (z :: y :: w) y.natAbs := by unfold ln; rw [e.prg hn (brd_cons hy okz) (by omega)]
    have f2 : ln (y :: z :: w) (y.natAbs + 1) = ln (z :: y :: w) (y.natAbs + 1) := by unfold ln; rw [e.prg hn (brd_cons hy okz) (by omega)]
    have l2 : tot n (y :: z :: w) < tot n w := by omega
    have l3 : tot n (z :: y :: w) < tot n w := by rw [← tot_be hn e (brd_cons hy okz)]; exact l2
    exact (Bel.step hz oky h1 l3).trans ((Bel.be e (brd_cons hy okz) l2).symm.trans (Bel.step hy okz h2 l2).symm)
  · have key : ∀ i : Int, 1 ≤ i → i + 1 < n → ∀ y z : Int, (y = i ∨ y = -i) → (z = i + 1 ∨ z = -(i + 1)) → tot n (y :: w) < tot n w → tot n (z :: w) < tot n w → Bel n (tot n w) (y :: w) (z :: w) := by
      intro i hi hi2 y z hy hz h1 h2
      have P : Pk n i w (A i) (a i) (A (i + 1)) (a (i + 1)) (A (i + 2)) (a (i + 2)) := by
        refine ⟨hn, hi, hi2, ok, ⟨H.Rp (by omega), H.Rp (by omega), H.Rp (by omega)⟩, ?_⟩
        unfold ln
        rw [H.rp i (by omega), H.rp (i + 1) (by omega), H.rp (i + 2) (by omega), cjw_len, cjw_len, cjw_len]
        omega
      obtain ⟨k1, k2⟩ := up_or (i := i) hi (by omega) H
      obtain ⟨k3, k4⟩ := up_or (i := i + 1) (by omega) (by omega) H
      rw [i12] at k3 k4
      rcases hy with rfl | rfl
      · rcases k1 with ⟨⟨B', hB⟩, _⟩ | ⟨_, k1⟩
        · rcases hz with rfl | rfl
          · rcases k3 with ⟨⟨D', hD⟩, _⟩ | ⟨_, k3⟩
            · exact P.bb hB hD
            · omega
          · rcases k4 with ⟨⟨B2, hB2⟩, _⟩ | ⟨_, k4⟩
            · have hB3 : A y ++ -(a y) :: B' = A (y + 2) ++ a (y + 2) :: B2 := by rw [← hB, hB2]
              rcases List.append_eq_append_iff.1 hB3 with ⟨c, q1, q2⟩ | ⟨c, q1, q2⟩
              · cases c with
                | nil =>
                  simp only [List.nil_append, List.cons.injEq] at q2
                  have := H.pos y (by omega)
                  have := H.pos (y + 2) (by omega)
                  omega
                | cons x c =>
                  simp only [List.cons_append, List.cons.injEq] at q2
                  rw [← q2.1] at q1
                  exact P.ba1 q1 hB2
              · cases c with
                | nil =>
                  simp only [List.nil_append, List.cons.injEq] at q2
                  have := H.pos y (by omega)
                  have := H.pos (y + 2) (by omega)
                  omega
                | cons x c =>
                  simp only [List.cons_append, List.cons.injEq] at q2
                  rw [← q2.1] at q1
                  exact P.ba2 q1 hB
            · omega
        · omega
      · rcases k2 with ⟨⟨A', hA⟩, _⟩ | ⟨_, k2⟩
        · rcases hz with rfl | rfl
          · rcases k3 with ⟨⟨D', hD⟩, _⟩ | ⟨_, k3⟩
            · exact (no_ab hn hi hi2 ok (H.rp i (by omega)) (H.rp (i + 1) (by omega)) (H.rp (i + 2) (by omega)) (H.arm i (by omega)) (H.arm (i + 1) (by omega)) (H.arm (i + 2) (by omega)) (H.pos i (by omega)) hA hD).elim
            · omega
          · rcases k4 with ⟨⟨B2, hB2⟩, _⟩ | ⟨_, k4⟩
            · exact P.aa hA hB2
            · omega
        · omega
    rcases (show z.natAbs = y.natAbs + 1 ∨ y.natAbs = z.natAbs + 1 by omega) with c | c
    · exact key y.natAbs (by omega) (by omega) y z (by omega) (by omega) h1 h2
    · exact (key z.natAbs (by omega) (by omega) z y (by omega) (by omega) h2 h1).symm
theorem Bel.ok {n : Int} {N : Nat} {a b : List Int} (h : Bel n N a b) : brd n a ∧ brd n b := by
  induction h with
  | be e h _ => exact ⟨h, e.ok.1 h⟩
  | step hy h _ _ => exact ⟨h, brd_cons hy h⟩
  | symm _ ih => exact ⟨ih.2, ih.1⟩
  | trans _ _ ih1 ih2 => exact ⟨ih1.1, ih2.2⟩
/-- the end does not depend on the way -/
def Unq (n : Int) (w : List Int) : Prop := ∀ t t', Rdc n w t → Rdc n w t' → BE n t t'
theorem unq_step {n : Int} (hn : n ≤ 6) {y : Int} (hy : y ≠ 0 ∧ y < n ∧ -n < y) {g : List Int} (ok : brd n g) (h1 : Unq n g) (h2 : Unq n (y :: g)) {t t' : List Int} (ht : Rdc n g t) (ht' : Rdc n (y :: g) t') : BE n t t' := by
  rcases Nat.lt_or_gt_of_ne (tot_ne hy ok) with c | c
  · exact h1 _ _ ht (.step hy c ht')
  · have e := BE.can' hy g
    obtain ⟨t2, q1, q2⟩ := ht.move hn _ ok e.symm
    have oky : brd n (y :: g) := brd_cons hy ok
    have hl : tot n (-y :: y :: g) < tot n (y :: g) := by rw [tot_be hn e (brd_cons (by omega) oky)]; exact c
    exact q2.trans (h2 _ _ (.step (by omega) hl q1) ht')
theorem unq_bel {n : Int} (hn : n ≤ 6) {N : Nat} (IH : ∀ w, brd n w → tot n w < N → Unq n w) {a b : List Int} (h : Bel n N a b) : ∀ t t', Rdc n a t → Rdc n b t' → BE n t t' := by
  induction h with
  | be e ok hl =>
    rename_i a b
    intro t t' ht ht'
    obtain ⟨t2, q1, q2⟩ := ht.move hn _ ok e
    exact q2.trans (IH b (e.ok.1 ok) (by rw [← tot_be hn e ok]; exact hl) _ _ q1 ht')
  | step hy ok hl hl2 => exact fun t t' ht ht' => unq_step hn hy ok (IH _ ok hl) (IH _ (brd_cons hy ok) hl2) ht ht'
  | symm _ ih => exact fun t t' ht ht' => (ih t' t ht' ht).symm
  | trans h1 _ ih1 ih2 =>
    rename_i a b c _
    intro t t' ht ht'
    obtain ⟨s, hs⟩ := Rdc.ex (n := n) _ b (Nat.le_refl _)
    exact (ih1 t s ht hs).trans (ih2 s t' hs ht')
theorem unq {n : Int} (hn : n ≤ 6) : ∀ (N : Nat) (w : List Int), brd n w → tot n w < N → Unq n w := by
  intro N
  induction N with
  | zero => exact fun w _ h => absurd h (Nat.not_lt_zero _)
  | succ N ih =>
    intro w ok hw t t' ht ht'
    cases ht with
    | stop hs =>
      cases ht' with
      | stop _ => exact BE.refl _
      | step hy hl _ => exact absurd hl (hs _ hy)
    | step hy hl h =>
      cases ht' with
      | stop hs => exact absurd hl (hs _ hy)
      | step hz hl2 h2 => exact unq_bel hn (fun g okg hg => ih g okg (by omega)) (peak hn ok hy hz hl hl2) _ _ h h2
theorem end_nil {n : Int} (hn : n ≤ 6) : ∀ (w : List Int), brd n w → ∀ t, Rdc n w t → BE n t []
  | [], _, t, ht => by
    cases ht with
    | stop _ => exact BE.refl _
    | step hy hl _ =>
      exfalso
      have h0 : tot n [] ≤ n.toNat := by
        have : ∀ m : Nat, smN (fun j => ln [] ((j : Int) + 1)) m = m := fun m => by
          induction m with
          | zero => rfl
          | succ m ih => simp only [smN]; rw [ih]; rfl
        unfold tot; rw [this]; exact Nat.le_refl _
      rename_i y _
      have ok : brd n [y] := brd_one hy
      obtain ⟨A, a, H⟩ := arms [y] ok
      have : n.toNat ≤ tot n [y] := by
        unfold tot
        have key : ∀ m : Nat, m ≤ n.toNat → m ≤ smN (fun j => ln [y] ((j : Int) + 1)) m := fun m => by
          induction m with
          | zero => exact fun _ => Nat.le_refl _
          | succ m ih =>
            intro hm
            have := ih (by omega)
            have l : ln [y] ((m : Int) + 1) = 2 * (A ((m : Int) + 1)).length + 1 := by unfold ln; rw [H.rp _ (by omega), cjw_len]
            simp only [smN]
            omega
        exact key _ (Nat.le_refl _)
      omega
  | y :: w, ok, t, ht => by
    have okw : brd n w := fun z hz => ok z (by simp [hz])
    obtain ⟨s, hs⟩ := Rdc.ex (n := n) _ w (Nat.le_refl _)
    have h1 := unq hn _ w okw (Nat.lt_succ_self _)
    have h2 := unq hn _ (y :: w) ok (Nat.lt_succ_self _)
    exact (unq_step hn (ok y (by simp)) okw h1 h2 hs ht).symm.trans (end_nil hn w okw s hs)
/-- A WORD THAT MAPS EVERY GENERATOR TO ITSELF IS EQUAL TO THE EMPTY WORD -/
theorem faithful {n : Int} (hn : n ≤ 6) {w : List Int} (ok : brd n w) (h : ∀ j, 1 ≤ j ∧ j ≤ n → prg w j = [j]) : BE n w [] := by
  have h0 : ∀ v, brd n v → tot n w ≤ tot n v := fun v okv => by
    obtain ⟨A, a, H⟩ := arms v okv
    unfold tot
    have key : ∀ m : Nat, m ≤ n.toNat → smN (fun j => ln w ((j : Int) + 1)) m ≤ smN (fun j => ln v ((j : Int) + 1)) m := fun m => by
      induction m with
      | zero => exact fun _ => Nat.le_refl _
      | succ m ih =>
        intro hm
        have := ih (by omega)
        have l : ln v ((m : Int) + 1) = 2 * (A ((m : Int) + 1)).length + 1 := by unfold ln; rw [H.rp _ (by omega), cjw_len]
        have l2 : ln w ((m : Int) + 1) = 1 := by unfold ln; rw [h _ (by omega)]; rfl
        simp only [smN]
        omega
    exact key _ (Nat.le_refl _)
  exact end_nil hn w ok w (.stop (fun y hy hl => by have := h0 (y :: w) (brd_cons hy ok); omega))
/-- words that are equal as maps are equal as braids -/
theorem we_be {n : Int} (hn : n ≤ 6) {a b : List Int} (ha : brd n a) (hb : brd n b) (h : WE n a b) : BE n a b := by
  have h1 : BE n (invW a ++ b) [] := faithful hn (brd_app (brd_inv ha) hb) (fun j hj => by
    rw [← img_one (brd_app (brd_inv ha) hb) hj]
    exact h.eqv ha (inr_one hj) trivial)
  have h2 : ∀ (a : List Int), brd n a → ∀ t, BE n (a ++ (invW a ++ t)) t := by
    intro a
    induction a with
    | nil => exact fun _ t => BE.refl _
    | cons x a ih =>
      intro ha t
      have hx := ha x (by simp)
      rw [invW_cons, List.append_assoc]
      exact ((ih (fun z hz => ha z (by simp [hz])) ([-x] ++ t)).cons x).trans (BE.can hx t)
  have h3 := (h2 a ha b).symm.trans (h1.pre a)
  rw [List.append_nil] at h3
  exact h3.symm
end Go.Proofs.Ytgjfpmjllpgadaa
