/- Conjugates in free groups: the word that leads to the letter in the middle. Plain facts: nothing of the program is here. -/
import Derived.Test.YtgjfpmjllpgadaaGGarsideEqualsAA
set_option linter.unusedVariables false
set_option linter.unusedSimpArgs false
namespace Go.Proofs.Ytgjfpmjllpgadaa

theorem rd_snoc {l : List Int} {x : Int} {r : List Int} : Rd (l ++ [x]) → Rd (x :: r) → Rd (l ++ x :: r) := by
  induction l with
  | nil => exact fun _ h => h
  | cons y l ih =>
    intro h1 h2
    cases l with
    | nil => exact ⟨h1.1, h2⟩
    | cons z l => exact ⟨h1.1, ih h1.2 h2⟩
theorem rd_pre : ∀ {l r : List Int}, Rd (l ++ r) → Rd l
  | [], _, _ => trivial
  | [_], _, _ => trivial
  | x :: y :: l, r, h => ⟨h.1, rd_pre (l := y :: l) h.2⟩
theorem rd_suf : ∀ {l r : List Int}, Rd (l ++ r) → Rd r
  | [], _, h => h
  | x :: l, r, h => rd_suf (l := l) h.tail
theorem rd_invW {w : List Int} (h : Rd w) : Rd (invW w) := by
  have := red_inv w
  rw [red_of_rd h, red_short] at this
  rw [← this]
  exact rd_short _
theorem rd_red (w : List Int) : Rd (red w) := by rw [red_short]; exact rd_short w
theorem invW_len (w : List Int) : (invW w).length = w.length := by simp [invW]
/-- the conjugate -/
def cjw (A : List Int) (a : Int) : List Int := A ++ a :: invW A
theorem cjw_len (A : List Int) (a : Int) : (cjw A a).length = 2 * A.length + 1 := by simp [cjw, invW_len]; omega
theorem inv_cjw (A : List Int) (a : Int) : invW (cjw A a) = cjw A (-a) := by
  unfold cjw
  rw [invW_app, invW_cons, invW_invW]
  simp
/-- nothing cancels in the conjugate -/
structure Arm (A : List Int) (a : Int) : Prop where
  nz : a ≠ 0
  l : Rd (A ++ [a])
  r : Rd (A ++ [-a])
theorem Arm.neg {A : List Int} {a : Int} (h : Arm A a) : Arm A (-a) := ⟨by have := h.nz; omega, h.r, by rw [Int.neg_neg]; exact h.l⟩
theorem Arm.rd {A : List Int} {a : Int} (h : Arm A a) : Rd (cjw A a) := by
  refine rd_snoc h.l ?_
  have := rd_invW h.r
  rw [invW_app] at this
  simpa [invW] using this
theorem cjw_inj {A B : List Int} {a b : Int} (h : cjw A a = cjw B b) : A = B ∧ a = b := by
  have hl : A.length = B.length := by have := congrArg List.length h; rw [cjw_len, cjw_len] at this; omega
  have := List.append_inj h hl
  exact ⟨this.1, (List.cons.inj this.2).1⟩
/-- the end of the word without the letter -/
def stp1 (a : Int) : List Int → List Int
  | [] => []
  | x :: l => if (x = a ∨ x = -a) ∧ stp1 a l = [] then [] else x :: stp1 a l
theorem stp1_cons (a x : Int) (l : List Int) : stp1 a (x :: l) = if (x = a ∨ x = -a) ∧ stp1 a l = [] then [] else x :: stp1 a l := rfl
theorem stp1_spec (a : Int) : ∀ l : List Int, ∃ R, l = stp1 a l ++ R ∧ (∀ x ∈ R, x = a ∨ x = -a) ∧ (∀ x ∈ (stp1 a l).getLast?, x ≠ a ∧ x ≠ -a)
  | [] => ⟨[], rfl, fun _ h => (by cases h), fun _ h => (by cases h)⟩
  | x :: l => by
    obtain ⟨R, h1, h2, h3⟩ := stp1_spec a l
    rw [stp1_cons]
    split
    · rename_i c
      rw [c.2] at h1
      refine ⟨x :: l, rfl, fun y hy => ?_, fun _ h => (by cases h)⟩
      rcases List.mem_cons.1 hy with rfl | hy
      · exact c.1
      · exact h2 y (by rw [h1] at hy; exact hy)
    · rename_i c
      refine ⟨R, by rw [List.cons_append, ← h1], h2, fun y hy => ?_⟩
      by_cases e : stp1 a l = []
      · rw [e] at hy
        simp only [List.getLast?_singleton, Option.mem_def, Option.some.injEq] at hy
        subst hy
        have : ¬ (x = a ∨ x = -a) := fun h => c ⟨h, e⟩
        omega
      · rw [List.getLast?_cons_of_ne_nil e] at hy
        exact h3 y hy
/-- what stands before a letter that is another stays -/
theorem stp1_keep {a y : Int} (hy : y ≠ a ∧ y ≠ -a) : ∀ (l r : List Int), ∃ s, stp1 a (l ++ y :: r) = l ++ y :: s ∧ s.length ≤ r.length
  | [], r => by
    refine ⟨stp1 a r, ?_, ?_⟩
    · rw [List.nil_append, stp1_cons, if_neg (fun h => by have := h.1; omega)]; rfl
    · obtain ⟨R, h, _⟩ := stp1_spec a r
      have := congrArg List.length h
      rw [List.length_append] at this
      omega
  | x :: l, r => by
    obtain ⟨s, h, hl⟩ := stp1_keep hy l r
    refine ⟨s, ?_, hl⟩
    rw [List.cons_append, stp1_cons, h, if_neg (fun h => by simp at h)]
    rfl
theorem stp1_len (a : Int) (l : List Int) : (stp1 a l).length ≤ l.length := by
  obtain ⟨R, h, _⟩ := stp1_spec a l
  have := congrArg List.length h
  rw [List.length_append] at this
  omega
theorem getLast_snoc (l : List Int) (h : l ≠ []) : ∃ l' y, l = l' ++ [y] ∧ l.getLast? = some y :=
  ⟨l.dropLast, l.getLast h, (List.dropLast_concat_getLast h).symm, List.getLast?_eq_some_getLast h⟩
theorem arm_of {A : List Int} {a : Int} (ha : a ≠ 0) (h : Rd A) (hl : ∀ x ∈ A.getLast?, x ≠ a ∧ x ≠ -a) : Arm A a := by
  have key : ∀ b : Int, (∀ x ∈ A.getLast?, x ≠ -b) → Rd (A ++ [b]) := fun b hb => by
    by_cases e : A = []
    · subst e; trivial
    · obtain ⟨l', y, e1, e2⟩ := getLast_snoc A e
      rw [e1, List.append_assoc]
      refine rd_snoc (by rw [← e1]; exact h) ⟨?_, trivial⟩
      have := hb y (by rw [e2]; rfl)
      omega
  exact ⟨ha, key a (fun x hx => (hl x hx).2), key (-a) (fun x hx => by have := (hl x hx).1; omega)⟩
theorem Arm.last {A : List Int} {a : Int} (h : Arm A a) : ∀ x ∈ A.getLast?, x ≠ a ∧ x ≠ -a := fun x hx => by
  have e : A ≠ [] := fun e => by rw [e] at hx; cases hx
  obtain ⟨l', y, e1, e2⟩ := getLast_snoc A e
  rw [e2] at hx
  simp only [Option.mem_def, Option.some.injEq] at hx
  subst hx
  have h1 := h.l
  have h2 := h.r
  rw [e1, List.append_assoc] at h1 h2
  have h1 := (rd_suf h1).1
  have h2 := (rd_suf h2).1
  omega
theorem Arm.word {A : List Int} {a : Int} (h : Arm A a) : Rd A := rd_pre h.l
/-- the arm of a conjugate -/
def arm (W : List Int) (b : Int) : List Int := stp1 b (red W)
theorem arm_arm {b : Int} (hb : b ≠ 0) (W : List Int) : Arm (arm W b) b := by
  obtain ⟨R, h1, _, h3⟩ := stp1_spec b (red W)
  refine arm_of hb ?_ h3
  have := rd_red W
  rw [h1] at this
  exact rd_pre this
theorem arm_len (W : List Int) (b : Int) : (arm W b).length ≤ W.length := by
  have h1 := stp1_len b (red W)
  have h2 := short_len W
  rw [← red_short] at h2
  unfold arm
  omega
theorem red_mid {x y z y' : List Int} (h : red y = red y') : red (x ++ (y ++ z)) = red (x ++ (y' ++ z)) := by
  rw [← red_app_r, ← red_app_r x (y' ++ z), ← red_app_l y z, h, red_app_l]
theorem red_can (x a y : List Int) : red (x ++ (a ++ (invW a ++ y))) = red (x ++ y) := by
  rw [← red_app_r x, ← red_app_r x y]
  congr 2
  exact fold_cancel a y (st := []) trivial
theorem red_can' (x a y : List Int) : red (x ++ (invW a ++ (a ++ y))) = red (x ++ y) := by
  have := red_can x (invW a) y
  rwa [invW_invW] at this
theorem red_pow {b : Int} : ∀ (R : List Int), (∀ x ∈ R, x = b ∨ x = -b) → red (R ++ b :: invW R) = red [b]
  | [], _ => rfl
  | x :: R, h => by
    rw [invW_cons]
    have e : red (x :: R ++ b :: (invW R ++ [-x])) = red ([x] ++ ((R ++ b :: invW R) ++ [-x])) := by simp
    rw [e, red_mid (y' := [b]) (red_pow R (fun y hy => h y (by simp [hy])))]
    rcases h x (by simp) with rfl | rfl
    · exact red_can [x] [x] []
    · rw [Int.neg_neg]
      exact red_can' [] [b] [b]
/-- EVERY CONJUGATE IS THE CONJUGATE BY ITS ARM -/
theorem red_arm {b : Int} (hb : b ≠ 0) (W : List Int) : red (cjw W b) = cjw (arm W b) b := by
  obtain ⟨R, h1, h2, _⟩ := stp1_spec b (red W)
  have e0 : red (cjw W b) = red (cjw (red W) b) := by
    unfold cjw
    rw [← red_app_l W, show red W ++ b :: invW W = (red W ++ [b]) ++ invW W by simp, ← red_app_r, red_inv]
    simp
  rw [e0]
  have e1 : red (cjw (red W) b) = red (cjw (arm W b) b) := by
    conv => lhs; unfold cjw; rw [h1]
    have : arm W b ++ R ++ b :: invW (arm W b ++ R) = arm W b ++ ((R ++ b :: invW R) ++ invW (arm W b)) := by rw [invW_app]; simp
    show red (arm W b ++ R ++ b :: invW (arm W b ++ R)) = _
    rw [this, red_mid (y' := [b]) (red_pow R h2)]
    simp [cjw]
  rw [e1, red_of_rd (arm_arm hb W).rd]
theorem arm_eqv {W W' : List Int} {b : Int} (hb : b ≠ 0) (h : red (cjw W b) = red (cjw W' b)) : arm W b = arm W' b := by
  rw [red_arm hb, red_arm hb] at h
  exact (cjw_inj h).1
end Go.Proofs.Ytgjfpmjllpgadaa

/- Conjugates in free groups: how long they become; the images of the generators. Plain facts: nothing of the program is here. -/
set_option linter.unusedVariables false
set_option linter.unusedSimpArgs false
namespace Go.Proofs.Ytgjfpmjllpgadaa

theorem com_pre : ∀ A B : List Int, ∃ P A2 B2, A = P ++ A2 ∧ B = P ++ B2 ∧ ∀ x ∈ A2.head?, ∀ y ∈ B2.head?, x ≠ y
  | [], B => ⟨[], [], B, rfl, rfl, fun _ h => (by cases h)⟩
  | A, [] => ⟨[], A, [], rfl, rfl, fun _ _ _ h => (by cases h)⟩
  | x :: A, y :: B => by
    by_cases e : x = y
    · subst e
      obtain ⟨P, A2, B2, h1, h2, h3⟩ := com_pre A B
      exact ⟨x :: P, A2, B2, by rw [h1]; rfl, by rw [h2]; rfl, h3⟩
    · refine ⟨[], x :: A, y :: B, rfl, rfl, fun a ha b hb => ?_⟩
      simp only [List.head?_cons, Option.mem_def, Option.some.injEq] at ha hb
      omega
/-- the word that leads round a conjugate first -/
def upw (A : List Int) (a : Int) (B : List Int) : List Int := A ++ a :: (invW A ++ B)
theorem rd_cons_of {x : Int} {l : List Int} (h : Rd l) (h2 : ∀ y ∈ l.head?, y ≠ -x) : Rd (x :: l) := by
  cases l with
  | nil => trivial
  | cons y l => exact ⟨h2 y rfl, h⟩
/-- IT GROWS, unless the one begins with the other and the letter -/
theorem arm_grow {A B : List Int} {a b : Int} (hA : Arm A a) (hB : Arm B b) (hab : a ≠ b ∧ a ≠ -b) (hn : ∀ B', B ≠ A ++ -a :: B') : B.length + 1 ≤ (arm (upw A a B) b).length := by
  obtain ⟨P, A2, B2, h1, h2, h3⟩ := com_pre A B
  have hlA : A.length = P.length + A2.length := by rw [h1, List.length_append]
  have hlB : B.length = P.length + B2.length := by rw [h2, List.length_append]
  have hB2 : Rd B2 := rd_suf (l := P) (by rw [← h2]; exact hB.word)
  have hX : red (upw A a B) = A ++ a :: (invW A2 ++ B2) := by
    have e1 : upw A a B = (A ++ a :: invW A2) ++ (invW P ++ (P ++ B2)) := by
      unfold upw
      conv => lhs; rw [h2]
      rw [show invW A = invW A2 ++ invW P by rw [h1, invW_app]]
      simp
    rw [e1, red_can']
    have : (A ++ a :: invW A2) ++ B2 = A ++ a :: (invW A2 ++ B2) := by simp
    rw [this]
    refine red_of_rd (rd_snoc hA.l ?_)
    cases hA2 : A2 with
    | nil =>
      refine rd_cons_of (by simpa [invW] using hB2) (fun y hy => ?_)
      cases hB3 : B2 with
      | nil => rw [hB3] at hy; cases hy
      | cons z B3 =>
        rw [hB3] at hy
        simp only [invW_nil, List.nil_append, List.head?_cons, Option.mem_def, Option.some.injEq] at hy
        subst hy
        intro e
        refine hn B3 ?_
        rw [h2, hB3, e, h1, hA2, List.append_nil]
    | cons x A3 =>
      have hr : Rd (a :: invW A2) := by
        have := rd_suf (l := A) hA.rd
        rw [show invW A = invW A2 ++ invW P by rw [h1, invW_app]] at this
        exact rd_pre (l := a :: invW A2) this
      rw [hA2, invW_cons] at hr
      rw [invW_cons]
      have := rd_snoc (l := a :: invW A3) (x := -x) (r := B2) hr (rd_cons_of hB2 (fun y hy => by
        have := h3 x (by rw [hA2]; rfl) y hy
        omega))
      simpa using this
  unfold arm
  rw [hX]
  by_cases e : B2 = []
  · obtain ⟨s, hs, _⟩ := stp1_keep (a := b) (y := a) hab A (invW A2 ++ B2)
    rw [hs, List.length_append, List.length_cons]
    rw [e] at hlB
    simp only [List.length_nil] at hlB
    omega
  · obtain ⟨B3, y, e1, e2⟩ := getLast_snoc B2 e
    have hy := hB.last y (by
      rw [h2, List.getLast?_append, e2]; rfl)
    obtain ⟨s, hs, _⟩ := stp1_keep (a := b) (y := y) hy (A ++ a :: (invW A2 ++ B3)) []
    rw [show A ++ a :: (invW A2 ++ B2) = (A ++ a :: (invW A2 ++ B3)) ++ y :: [] by rw [e1]; simp, hs]
    rw [e1] at hlB
    simp only [List.length_append, List.length_cons, List.length_nil, invW_len] at hlB ⊢
    omega
theorem upw_cut {A : List Int} {a : Int} (B' : List Int) : red (upw A a (A ++ -a :: B')) = red (A ++ B') := by
  have e : upw A a (A ++ -a :: B') = (A ++ [a]) ++ (invW A ++ (A ++ ([-a] ++ B'))) := by simp [upw]
  rw [e, red_can']
  have e2 : (A ++ [a]) ++ ([-a] ++ B') = A ++ ([a] ++ (invW [a] ++ B')) := by simp [invW]
  rw [e2, red_can]
theorem cjw_up (A : List Int) (a : Int) (B : List Int) (b : Int) : cjw (upw A a B) b = cjw A a ++ (cjw B b ++ cjw A (-a)) := by
  unfold cjw upw
  simp [invW_app, invW_cons, invW_invW]
/-- the image of a generator is a conjugate -/
def Rp (w : List Int) (j : Int) (W : List Int) (b : Int) : Prop := prg w j = red (cjw W b)
theorem red_cjw {W W' : List Int} {b : Int} (h : red W = red W') : red (cjw W b) = red (cjw W' b) := by
  have key : ∀ W : List Int, red (cjw W b) = red (cjw (red W) b) := fun W => by
    unfold cjw
    rw [← red_app_l W, show red W ++ b :: invW W = (red W ++ [b]) ++ invW W by simp, ← red_app_r, red_inv]
    simp
  rw [key W, h, ← key W']
theorem Rp.eqv {w : List Int} {j : Int} {W W' : List Int} {b : Int} (h : Rp w j W b) (e : red W = red W') : Rp w j W' b := by
  unfold Rp at *
  rw [h, red_cjw e]
theorem red_le1 (u : List Int) : (red u).length ≤ u.length := by rw [red_short]; exact short_len u
theorem Rp.len {w : List Int} {j : Int} {W : List Int} {b : Int} (h : Rp w j W b) : (prg w j).length ≤ 2 * W.length + 1 := by
  unfold Rp at h
  rw [h, ← cjw_len W b]
  exact red_le1 _
theorem prg_pos {i : Int} (hi : 1 ≤ i) (w : List Int) (j : Int) : prg (i :: w) j = if j = i then red (prg w i ++ (prg w (i + 1) ++ invW (prg w i))) else if j = i + 1 then prg w i else prg w j := by
  conv => lhs; unfold prg
  rw [if_pos (by omega)]
theorem prg_neg {i : Int} (hi : 1 ≤ i) (w : List Int) (j : Int) : prg (-i :: w) j = if j = i then prg w (i + 1) else if j = i + 1 then red (invW (prg w (i + 1)) ++ (prg w i ++ prg w (i + 1))) else prg w j := by
  conv => lhs; unfold prg
  rw [if_neg (by omega), Int.neg_neg]
theorem red3 {x y z x' y' z' : List Int} (h1 : red x = red x') (h2 : red y = red y') (h3 : red z = red z') : red (x ++ (y ++ z)) = red (x' ++ (y' ++ z')) := by
  rw [← red_app_l x, h1, red_app_l, ← red_app_r x', ← red_app_l y, h2, red_app_l, ← red_app_r y', h3, red_app_r y', red_app_r]
theorem red_inv_eq {x y : List Int} (h : red x = red y) : red (invW x) = red (invW y) := by rw [red_inv, red_inv, h]
theorem Rp.pos_i {w : List Int} {i : Int} (hi : 1 ≤ i) {A B : List Int} {a b : Int} (h1 : Rp w i A a) (h2 : Rp w (i + 1) B b) : Rp (i :: w) i (upw A a B) b := by
  unfold Rp at *
  rw [prg_pos hi, if_pos rfl, cjw_up]
  have e1 : red (prg w i) = red (cjw A a) := by rw [h1, red_red]
  have e2 : red (prg w (i + 1)) = red (cjw B b) := by rw [h2, red_red]
  refine red3 e1 e2 ?_
  rw [red_inv_eq e1, inv_cjw]
theorem Rp.pos_j {w : List Int} {i : Int} (hi : 1 ≤ i) {A : List Int} {a : Int} (h1 : Rp w i A a) : Rp (i :: w) (i + 1) A a := by
  unfold Rp at *
  rw [prg_pos hi, if_neg (by omega), if_pos rfl, h1]
theorem Rp.neg_i {w : List Int} {i : Int} (hi : 1 ≤ i) {B : List Int} {b : Int} (h2 : Rp w (i + 1) B b) : Rp (-i :: w) i B b := by
  unfold Rp at *
  rw [prg_neg hi, if_pos rfl, h2]
theorem Rp.neg_j {w : List Int} {i : Int} (hi : 1 ≤ i) {A B : List Int} {a b : Int} (h1 : Rp w i A a) (h2 : Rp w (i + 1) B b) : Rp (-i :: w) (i + 1) (upw B (-b) A) a := by
  unfold Rp at *
  rw [prg_neg hi, if_neg (by omega), if_pos rfl, cjw_up, Int.neg_neg]
  have e1 : red (prg w i) = red (cjw A a) := by rw [h1, red_red]
  have e2 : red (prg w (i + 1)) = red (cjw B b) := by rw [h2, red_red]
  refine red3 ?_ e1 e2
  rw [red_inv_eq e2, inv_cjw]
theorem Rp.oth {w : List Int} {y j : Int} (hy : y ≠ 0) (h1 : j ≠ y.natAbs) (h2 : j ≠ y.natAbs + 1) {A : List Int} {a : Int} (h : Rp w j A a) : Rp (y :: w) j A a := by
  unfold Rp at *
  rcases Int.lt_or_gt_of_ne hy with c | c
  · obtain ⟨i, rfl⟩ : ∃ i, y = -i := ⟨-y, by omega⟩
    rw [prg_neg (by omega), if_neg (by omega), if_neg (by omega), h]
  · rw [prg_pos (by omega), if_neg (by omega), if_neg (by omega), h]
/-- the images of the generators are conjugates by their arms -/
structure Ars (n : Int) (w : List Int) (A : Int → List Int) (a : Int → Int) : Prop where
  rp : ∀ j, 1 ≤ j ∧ j ≤ n → prg w j = cjw (A j) (a j)
  arm : ∀ j, 1 ≤ j ∧ j ≤ n → Arm (A j) (a j)
  pos : ∀ j, 1 ≤ j ∧ j ≤ n → 1 ≤ a j
  inj : ∀ j k, 1 ≤ j ∧ j ≤ n → 1 ≤ k ∧ k ≤ n → a j = a k → j = k
theorem Ars.Rp {n : Int} {w : List Int} {A : Int → List Int} {a : Int → Int} (h : Ars n w A a) {j : Int} (hj : 1 ≤ j ∧ j ≤ n) : Go.Proofs.Ytgjfpmjllpgadaa.Rp w j (A j) (a j) := by
  unfold Go.Proofs.Ytgjfpmjllpgadaa.Rp
  rw [red_of_rd (h.arm j hj).rd]; exact h.rp j hj
theorem ars_of {n : Int} {w : List Int} {W : Int → List Int} {a : Int → Int} (h1 : ∀ j, 1 ≤ j ∧ j ≤ n → Rp w j (W j) (a j)) (h2 : ∀ j, 1 ≤ j ∧ j ≤ n → 1 ≤ a j) (h3 : ∀ j k, 1 ≤ j ∧ j ≤ n → 1 ≤ k ∧ k ≤ n → a j = a k → j = k) : Ars n w (fun j => Go.Proofs.Ytgjfpmjllpgadaa.arm (W j) (a j)) a :=
  ⟨fun j hj => by rw [← red_arm (by have := h2 j hj; omega)]; exact h1 j hj, fun j hj => arm_arm (by have := h2 j hj; omega) _, h2, h3⟩
theorem arms {n : Int} : ∀ w : List Int, brd n w → ∃ A a, Ars n w A a
  | [], _ => ⟨fun _ => [], fun j => j, fun j _ => rfl, fun j hj => ⟨by omega, trivial, trivial⟩, fun j hj => hj.1, fun j k _ _ e => e⟩
  | y :: w, hw => by
    obtain ⟨A, a, H⟩ := arms w (fun z hz => hw z (by simp [hz]))
    have hy := hw y (by simp)
    have sw : ∀ i : Int, 1 ≤ i → i < n → (∀ j, 1 ≤ j ∧ j ≤ n → 1 ≤ a (if j = i then i + 1 else if j = i + 1 then i else j)) ∧ ∀ j k, 1 ≤ j ∧ j ≤ n → 1 ≤ k ∧ k ≤ n → a (if j = i then i + 1 else if j = i + 1 then i else j) = a (if k = i then i + 1 else if k = i + 1 then i else k) → j = k := fun i h1 h2 => by
      refine ⟨fun j hj => H.pos _ ?_, fun j k hj hk e => ?_⟩
      · split
        · omega
        · split <;> omega
      · have := H.inj _ _ (by split; omega; split <;> omega) (by split; omega; split <;> omega) e
        revert this
        split <;> split <;> (try split) <;> (try split) <;> omega
    rcases Int.lt_or_gt_of_ne hy.1 with c | c
    · obtain ⟨i, rfl⟩ : ∃ i, y = -i := ⟨-y, by omega⟩
      obtain ⟨g1, g2⟩ := sw i (by omega) (by omega)
      refine ⟨_, _, ars_of (W := fun j => if j = i then A (i + 1) else if j = i + 1 then upw (A (i + 1)) (-a (i + 1)) (A i) else A j) (fun j hj => ?_) g1 g2⟩
      by_cases e : j = i
      · subst e
        rw [if_pos rfl, if_pos rfl]
        exact (H.Rp (by omega)).neg_i (by omega)
      · rw [if_neg e, if_neg e]
        by_cases e2 : j = i + 1
        · subst e2
          rw [if_pos rfl, if_pos rfl]
          exact (H.Rp (by omega)).neg_j (by omega) (H.Rp (by omega))
        · rw [if_neg e2, if_neg e2]
          exact (H.Rp hj).oth (by omega) (by omega) (by omega)
    · obtain ⟨g1, g2⟩ := sw y (by omega) (by omega)
      refine ⟨_, _, ars_of (W := fun j => if j = y then upw (A y) (a y) (A (y + 1)) else if j = y + 1 then A y else A j) (fun j hj => ?_) g1 g2⟩
      by_cases e : j = y
      · subst e
        rw [if_pos rfl, if_pos rfl]
        exact (H.Rp (by omega)).pos_i (by omega) (H.Rp (by omega))
      · rw [if_neg e, if_neg e]
        by_cases e2 : j = y + 1
        · subst e2
          rw [if_pos rfl, if_pos rfl]
          exact (H.Rp (by omega)).pos_j (by omega)
        · rw [if_neg e2, if_neg e2]
          exact (H.Rp hj).oth (by omega) (by omega) (by omega)
end Go.Proofs.Ytgjfpmjllpgadaa
