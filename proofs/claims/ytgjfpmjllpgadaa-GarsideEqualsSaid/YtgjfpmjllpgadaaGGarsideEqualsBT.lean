/- Words that are equal as braids; the sum of the lengths of the images. Plain facts: nothing of the program is here. -/
import Derived.Test.YtgjfpmjllpgadaaGGarsideEqualsBS
import Derived.Test.YtgjfpmjllpgadaaGGarsideEqualsAB
set_option linter.unusedVariables false
set_option linter.unusedSimpArgs false
namespace Go.Proofs.Ytgjfpmjllpgadaa

/-- equal as braids: by the relations of the letters -/
inductive BE (n : Int) : List Int → List Int → Prop
  | refl (a : List Int) : BE n a a
  | symm {a b : List Int} : BE n a b → BE n b a
  | trans {a b c : List Int} : BE n a b → BE n b c → BE n a c
  | cons (x : Int) {a b : List Int} : BE n a b → BE n (x :: a) (x :: b)
  | can {x : Int} (hx : x ≠ 0 ∧ x < n ∧ -n < x) (t : List Int) : BE n (x :: -x :: t) t
  | far {i j : Int} (hi : 1 ≤ i) (hij : i + 2 ≤ j) (hj : j < n) (t : List Int) : BE n (i :: j :: t) (j :: i :: t)
  | brd {i : Int} (hi : 1 ≤ i) (hn : i + 1 < n) (t : List Int) : BE n (i :: (i + 1) :: i :: t) ((i + 1) :: i :: (i + 1) :: t)
theorem brd_cons_iff {n x : Int} {a : List Int} : Go.Proofs.Ytgjfpmjllpgadaa.brd n (x :: a) ↔ (x ≠ 0 ∧ x < n ∧ -n < x) ∧ Go.Proofs.Ytgjfpmjllpgadaa.brd n a :=
  ⟨fun h => ⟨h x (by simp), fun z hz => h z (by simp [hz])⟩, fun h => brd_cons h.1 h.2⟩
theorem BE.ok {n : Int} {a b : List Int} (h : BE n a b) : Go.Proofs.Ytgjfpmjllpgadaa.brd n a ↔ Go.Proofs.Ytgjfpmjllpgadaa.brd n b := by
  induction h with
  | refl _ => exact Iff.rfl
  | symm _ ih => exact ih.symm
  | trans _ _ ih1 ih2 => exact ih1.trans ih2
  | cons x _ ih => rw [brd_cons_iff, brd_cons_iff, ih]
  | can hx t => rw [brd_cons_iff, brd_cons_iff]; exact ⟨fun h => h.2.2, fun h => ⟨hx, by omega, h⟩⟩
  | far hi hij hj t => simp only [brd_cons_iff]; exact ⟨fun h => ⟨h.2.1, h.1, h.2.2⟩, fun h => ⟨h.2.1, h.1, h.2.2⟩⟩
  | brd hi hn t => simp only [brd_cons_iff]; exact ⟨fun h => ⟨h.2.1, h.1, h.2.1, h.2.2.2⟩, fun h => ⟨h.2.1, h.1, h.2.1, h.2.2.2⟩⟩
theorem BE.we {n : Int} (hn : n ≤ 6) {a b : List Int} (h : BE n a b) : Go.Proofs.Ytgjfpmjllpgadaa.brd n a → WE n a b := by
  induction h with
  | refl a => exact fun _ => WE.refl a
  | symm h ih => exact fun hb => (ih (h.ok.2 hb)).symm
  | trans h1 h2 ih1 ih2 => exact fun ha => (ih1 ha).trans (ih2 (h1.ok.1 ha))
  | cons x h ih => exact fun ha => WE.cons (brd_cons_iff.1 ha).1 (ih (brd_cons_iff.1 ha).2)
  | can hx t => exact fun ha => WE.right t brd_nil (by have := WE.cancel (brd_one hx); simpa [invW] using this)
  | far hi hij hj t => exact fun ha => WE.right t (brd_cons (by omega) (brd_one (by omega))) (WE.far hn hi hij hj)
  | brd hi hn2 t => exact fun ha => WE.right t (brd_cons (by omega) (brd_cons (by omega) (brd_one (by omega)))) (WE.braid hn ⟨hi, hn2⟩)
theorem BE.prg {n : Int} (hn : n ≤ 6) {a b : List Int} (h : BE n a b) (ha : Go.Proofs.Ytgjfpmjllpgadaa.brd n a) {j : Int} (hj : 1 ≤ j ∧ j ≤ n) : Go.Proofs.Ytgjfpmjllpgadaa.prg a j = Go.Proofs.Ytgjfpmjllpgadaa.prg b j := by
  rw [← img_one ha hj, ← img_one (h.ok.1 ha) hj]
  exact h.we hn ha [j] (inr_one hj) trivial
theorem BE.pre {n : Int} {a b : List Int} (h : BE n a b) : ∀ v : List Int, BE n (v ++ a) (v ++ b)
  | [] => h
  | x :: v => (BE.pre h v).cons x
theorem BE.can' {n x : Int} (hx : x ≠ 0 ∧ x < n ∧ -n < x) (t : List Int) : BE n (-x :: x :: t) t := by
  have := BE.can (n := n) (x := -x) (by omega) t
  rwa [Int.neg_neg] at this
theorem BE.lcan {n x : Int} (hx : x ≠ 0 ∧ x < n ∧ -n < x) {a b : List Int} (h : BE n (x :: a) (x :: b)) : BE n a b :=
  (BE.can' hx a).symm.trans ((h.cons (-x)).trans (BE.can' hx b))
/-- letters far apart change their places -/
theorem BE.farS {n y z : Int} (hy : y ≠ 0 ∧ y < n ∧ -n < y) (hz : z ≠ 0 ∧ z < n ∧ -n < z) (h : y.natAbs + 2 ≤ z.natAbs ∨ z.natAbs + 2 ≤ y.natAbs) (t : List Int) : BE n (y :: z :: t) (z :: y :: t) := by
  have key : ∀ i j : Int, 1 ≤ i → i + 2 ≤ j → j < n → ∀ t, BE n (i :: j :: t) (j :: i :: t) ∧ BE n (-i :: j :: t) (j :: -i :: t) ∧ BE n (i :: -j :: t) (-j :: i :: t) ∧ BE n (-i :: -j :: t) (-j :: -i :: t) := by
    intro i j hi hij hj t
    have f := fun t => BE.far (n := n) hi hij hj t
    have g1 : ∀ t, BE n (-i :: j :: t) (j :: -i :: t) := fun t => by
      refine BE.lcan (x := i) (by omega) ?_
      refine (BE.can (by omega) _).trans (BE.symm ((f _).trans ?_))
      exact (BE.can (by omega) _).cons j
    have g2 : ∀ t, BE n (i :: -j :: t) (-j :: i :: t) := fun t => by
      refine BE.lcan (x := j) (by omega) ?_
      refine ((f _).symm.trans ((BE.can (by omega) _).cons i)).trans (BE.can (by omega) _).symm
    refine ⟨f t, g1 t, g2 t, ?_⟩
    refine BE.lcan (x := i) (by omega) ?_
    refine (BE.can (by omega) _).trans (BE.symm ((g2 _).trans ?_))
    exact (BE.can (by omega) _).cons (-j)
  have hh : ∃ i j : Int, 1 ≤ i ∧ i + 2 ≤ j ∧ j < n ∧ (((y = i ∨ y = -i) ∧ (z = j ∨ z = -j)) ∨ ((y = j ∨ y = -j) ∧ (z = i ∨ z = -i))) := by
    rcases h with h | h
    · exact ⟨y.natAbs, z.natAbs, by omega, by omega, by omega, .inl (by omega)⟩
    · exact ⟨z.natAbs, y.natAbs, by omega, by omega, by omega, .inr (by omega)⟩
  obtain ⟨i, j, h1, h2, h3, h4⟩ := hh
  obtain ⟨k1, k2, k3, k4⟩ := key i j h1 h2 h3 t
  rcases h4 with ⟨rfl | rfl, rfl | rfl⟩ | ⟨rfl | rfl, rfl | rfl⟩
  · exact k1
  · exact k3
  · exact k2
  · exact k4
  · exact k1.symm
  · exact k2.symm
  · exact k3.symm
  · exact k4.symm
/-- other forms of the braid relation -/
theorem BE.brdN {n i : Int} (hi : 1 ≤ i) (hn : i + 1 < n) (t : List Int) : BE n (-i :: -(i + 1) :: -i :: t) (-(i + 1) :: -i :: -(i + 1) :: t) := by
  refine BE.lcan (x := i) (by omega) (BE.lcan (x := i + 1) (by omega) (BE.lcan (x := i) (by omega) ?_))
  have e1 : BE n (i :: (i + 1) :: i :: -i :: -(i + 1) :: -i :: t) t :=
    ((((BE.can (n := n) (x := i) (by omega) (-(i + 1) :: -i :: t)).cons (i + 1)).trans (BE.can (by omega) _)).cons i).trans (BE.can (by omega) _)
  have e2 : BE n (i :: (i + 1) :: i :: -(i + 1) :: -i :: -(i + 1) :: t) t :=
    (BE.brd hi hn _).trans (((((BE.can (n := n) (x := i + 1) (by omega) (-i :: -(i + 1) :: t)).cons i).trans (BE.can (by omega) _)).cons (i + 1)).trans (BE.can (by omega) _))
  exact e1.trans e2.symm
theorem BE.brdM {n i : Int} (hi : 1 ≤ i) (hn : i + 1 < n) (t : List Int) : BE n (-i :: -(i + 1) :: i :: t) ((i + 1) :: -i :: -(i + 1) :: t) := by
  refine BE.lcan (x := -(i + 1)) (by omega) ?_
  refine (BE.brdN hi hn (i :: t)).symm.trans ?_ |>.trans (BE.can' (by omega) _).symm
  exact ((BE.can' (by omega) t).cons _).cons _

/-- a sum -/
def smN (f : Nat → Nat) : Nat → Nat
  | 0 => 0
  | m + 1 => smN f m + f m
theorem smN_eq {f g : Nat → Nat} : ∀ {m : Nat}, (∀ j, j < m → f j = g j) → smN f m = smN g m
  | 0, _ => rfl
  | m + 1, h => by simp only [smN]; rw [smN_eq (fun j hj => h j (by omega)), h m (by omega)]
theorem smN_two {f g : Nat → Nat} {p : Nat} : ∀ {m : Nat}, p + 1 < m → (∀ j, j < m → j ≠ p → j ≠ p + 1 → f j = g j) → smN f m + (g p + g (p + 1)) = smN g m + (f p + f (p + 1))
  | 0, h, _ => by omega
  | m + 1, h, e => by
    simp only [smN]
    by_cases c : p + 1 = m
    · subst c
      simp only [smN]
      rw [smN_eq (f := f) (g := g) (fun j hj => e j (by omega) (by omega) (by omega))]
      omega
    · have := smN_two (f := f) (g := g) (p := p) (m := m) (by omega) (fun j hj => e j (by omega))
      have := e m (by omega) (by omega) (by omega)
      omega
/-- the sum of the lengths of the images -/
def ln (w : List Int) (j : Int) : Nat := (prg w j).length
def tot (n : Int) (w : List Int) : Nat := smN (fun j => ln w ((j : Int) + 1)) n.toNat
theorem ln_oth {y j : Int} {w : List Int} (hy : y ≠ 0) (h1 : j ≠ y.natAbs) (h2 : j ≠ y.natAbs + 1) : ln (y :: w) j = ln w j := by
  unfold ln
  rcases Int.lt_or_gt_of_ne hy with c | c
  · obtain ⟨i, rfl⟩ : ∃ i, y = -i := ⟨-y, by omega⟩
    rw [prg_neg (by omega), if_neg (by omega), if_neg (by omega)]
  · rw [prg_pos (by omega), if_neg (by omega), if_neg (by omega)]
theorem tot_two {n y : Int} {w : List Int} (hy : y ≠ 0 ∧ y < n ∧ -n < y) {i : Int} (hi : i = y.natAbs) : tot n (y :: w) + (ln w i + ln w (i + 1)) = tot n w + (ln (y :: w) i + ln (y :: w) (i + 1)) := by
  subst hi
  have := smN_two (f := fun j => ln (y :: w) ((j : Int) + 1)) (g := fun j => ln w ((j : Int) + 1)) (p := y.natAbs - 1) (m := n.toNat) (by omega) (fun j hj h1 h2 => ln_oth hy.1 (by omega) (by omega))
  simp only [show ((y.natAbs - 1 : Nat) : Int) + 1 = y.natAbs by omega, show ((y.natAbs - 1 + 1 : Nat) : Int) + 1 = y.natAbs + 1 by omega] at this
  exact this
theorem tot_be {n : Int} (hn : n ≤ 6) {a b : List Int} (h : BE n a b) (ha : brd n a) : tot n a = tot n b :=
  smN_eq (fun j hj => by
    unfold ln
    rw [h.prg hn ha (by omega)])
theorem tot_three {n i : Int} {w : List Int} (hi : 1 ≤ i) (hn : i + 1 < n) : ∀ v : List Int, (∀ y ∈ v, y = i ∨ y = -i ∨ y = i + 1 ∨ y = -(i + 1)) →
    tot n (v ++ w) + (ln w i + ln w (i + 1) + ln w (i + 2)) = tot n w + (ln (v ++ w) i + ln (v ++ w) (i + 1) + ln (v ++ w) (i + 2))
  | [], _ => rfl
  | y :: v, h => by
    have ih := tot_three (w := w) hi hn v (fun z hz => h z (by simp [hz]))
    have hy := h y (by simp)
    rw [List.cons_append]
    have c : y = i ∨ y = -i ∨ (y = i + 1 ∨ y = -(i + 1)) := by omega
    by_cases e : y = i ∨ y = -i
    · have t2 := tot_two (n := n) (y := y) (w := v ++ w) (by omega) (i := i) (by omega)
      have o := ln_oth (y := y) (j := i + 2) (w := v ++ w) (by omega) (by omega) (by omega)
      omega
    · have t2 := tot_two (n := n) (y := y) (w := v ++ w) (by omega) (i := i + 1) (by omega)
      have o := ln_oth (y := y) (j := i) (w := v ++ w) (by omega) (by omega) (by omega)
      rw [show i + 1 + 1 = i + 2 by omega] at t2
      omega
end Go.Proofs.Ytgjfpmjllpgadaa
