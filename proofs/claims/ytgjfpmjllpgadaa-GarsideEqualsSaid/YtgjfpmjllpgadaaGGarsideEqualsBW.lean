/- Braids keep the order of reduced words. Plain facts: nothing of the program is here. -/
import Derived.Test.YtgjfpmjllpgadaaGGarsideEqualsBV
import Derived.Test.YtgjfpmjllpgadaaGGarsideEqualsBT
set_option linter.unusedVariables false
set_option linter.unusedSimpArgs false
namespace Go.Proofs.Ytgjfpmjllpgadaa

theorem Wn.inr {n : Int} {p : List Int} (h : Wn n p) : Go.Proofs.Ytgjfpmjllpgadaa.inr n p := fun z hz => ⟨(h.le z hz).2, (h.le z hz).1.1, (h.le z hz).1.2⟩
theorem Wn.of {n : Int} {p : List Int} (h : Rd p) (h2 : Go.Proofs.Ytgjfpmjllpgadaa.inr n p) : Wn n p := ⟨h, fun x hx => ⟨⟨(h2 x hx).2.1, (h2 x hx).2.2⟩, (h2 x hx).1⟩⟩
theorem Wn.stp {n y : Int} {p : List Int} (h : Wn n p) (hy : y ≠ 0 ∧ y < n ∧ -n < y) : Wn n (Go.Proofs.Ytgjfpmjllpgadaa.stp y p) := Wn.of (rd_short _) (inr_stp hy h.inr)
theorem stp_lt {n y : Int} (hy : y ≠ 0 ∧ y < n ∧ -n < y) {p q : List Int} (hp : Wn n p) (hq : Wn n q) (h : lt n 0 p q) : lt n 0 (stp y p) (stp y q) := by
  have i0 : inl n 0 := by unfold inl; omega
  have key : ∀ k : Int, 1 ≤ k → k < n → ∀ p q, Wn n p → Wn n q → lt n 0 p q → lt n 0 (stp k p) (stp k q) := fun k h1 h2 p q hp hq h =>
    (mon h1 h2 p q hp hq 0 0 i0 i0 (.inl rfl) (.inl rfl) h).1 (.inr ⟨rfl, by unfold oth; omega⟩)
  by_cases c : 0 < y
  · exact key y (by omega) (by omega) p q hp hq h
  · have h1 := hp.stp hy
    have h2 := hq.stp hy
    have b1 := stp_back (n := n) (y := y) hy hp.inr hp.rd
    have b2 := stp_back (n := n) (y := y) hy hq.inr hq.rd
    refine Classical.byContradiction (fun hn => ?_)
    have hne : stp y p ≠ stp y q := fun e => by
      rw [e, b2] at b1
      rw [b1] at h
      exact lt_irr h
    have := lt_tri i0 h1.le h2.le hne hn
    have := key (-y) (by omega) (by omega) _ _ h2 h1 this
    rw [b1, b2] at this
    exact lt_asym h this
theorem img_lt {n : Int} : ∀ {w p q : List Int}, brd n w → Wn n p → Wn n q → lt n 0 p q → lt n 0 (img w p) (img w q)
  | [], _, _, _, _, _, h => h
  | y :: w, p, q, hw, hp, hq, h => by
    have hy := hw y (by simp)
    exact img_lt (w := w) (fun z hz => hw z (by simp [hz])) (hp.stp hy) (hq.stp hy) (stp_lt hy hp hq h)
theorem wn_one {n x : Int} (h : x ≠ 0) (h2 : inl n x) : Wn n [x] := ⟨trivial, fun y hy => by simp only [List.mem_singleton] at hy; subst hy; exact ⟨h2, h⟩⟩
theorem lt_ones {n x y : Int} (hx : inl n x) (hy : inl n y) (hx0 : x ≠ 0) (hy0 : y ≠ 0) (h : plcL n x < plcL n y) : lt n 0 [x] [y] := by
  have i0 : inl n 0 := by unfold inl at *; omega
  have h2 := pos_bd hx
  have h3 := pos_bd hy
  refine lt_hds (by unfold inl at hx; omega) i0 (fun z hz => by simp only [List.mem_singleton] at hz; subst hz; exact ⟨hx, hx0⟩) (fun z hz => by simp only [List.mem_singleton] at hz; subst hz; exact ⟨hy, hy0⟩) ?_
  simp only [List.headD_cons]
  have : plcL n (-0) = 2 * n := by unfold plcL; rw [if_neg (by omega), if_neg (by omega)]
  unfold cyc
  omega
theorem img_inv {n : Int} {w : List Int} (hw : brd n w) {x : Int} (hx : 1 ≤ x ∧ x ≤ n) : img w [-x] = invW (img w [x]) := by
  rw [img_hom hw (u := [-x]) (fun z hz => by simp only [List.mem_singleton] at hz; subst hz; omega) trivial, img_hom hw (u := [x]) (inr_one hx) trivial]
  simp only [List.flatMap_cons, List.flatMap_nil, List.append_nil]
  rw [hom_neg, red_inv]
/-- the images of the generators, and their inverses, are in order -/
theorem img_ord {n : Int} {w : List Int} (hw : brd n w) {x y : Int} (hx : 1 ≤ x) (hxy : x < y) (hy : y ≤ n) :
    lt n 0 (invW (img w [x])) (img w [y]) ∧ lt n 0 (invW (img w [x])) (invW (img w [y])) := by
  have ix : inl n (-x) := by unfold inl; omega
  have iy : inl n y := by unfold inl; omega
  have iny : inl n (-y) := by unfold inl; omega
  have p1 := pos_nk (n := n) hx
  have p2 := pos_k (n := n) (show 1 ≤ y by omega)
  have p3 := pos_nk (n := n) (show 1 ≤ y by omega)
  rw [← img_inv hw ⟨hx, by omega⟩, ← img_inv hw ⟨by omega, hy⟩]
  exact ⟨img_lt hw (wn_one (by omega) ix) (wn_one (by omega) iy) (lt_ones ix iy (by omega) (by omega) (by omega)),
    img_lt hw (wn_one (by omega) ix) (wn_one (by omega) iny) (lt_ones ix iny (by omega) (by omega) (by omega))⟩
theorem img_ord2 {n : Int} {w : List Int} (hw : brd n w) {x y : Int} (hx : 1 ≤ x) (hxy : x < y) (hy : y ≤ n) : lt n 0 (img w [x]) (img w [y]) := by
  have ix : inl n x := by unfold inl; omega
  have iy : inl n y := by unfold inl; omega
  have p1 := pos_k (n := n) hx
  have p2 := pos_k (n := n) (show 1 ≤ y by omega)
  exact img_lt hw (wn_one (by omega) ix) (wn_one (by omega) iy) (lt_ones ix iy (by omega) (by omega) (by omega))
end Go.Proofs.Ytgjfpmjllpgadaa

/- Three neighbours under letters; the paths below a peak. Plain facts: nothing of the program is here. -/
set_option linter.unusedVariables false
set_option linter.unusedSimpArgs false
namespace Go.Proofs.Ytgjfpmjllpgadaa

/-- three neighbours as conjugates -/
structure Tr (u : List Int) (i : Int) (A : List Int) (a : Int) (B : List Int) (b : Int) (D : List Int) (d : Int) : Prop where
  x : Rp u i A a
  y : Rp u (i + 1) B b
  z : Rp u (i + 2) D d
theorem i12 (i : Int) : i + 1 + 1 = i + 2 := by omega
theorem Tr.pi {u : List Int} {i : Int} (hi : 1 ≤ i) {A B D : List Int} {a b d : Int} (h : Tr u i A a B b D d) : Tr (i :: u) i (upw A a B) b A a D d :=
  ⟨h.x.pos_i hi h.y, h.x.pos_j hi, h.z.oth (by omega) (by omega) (by omega)⟩
theorem Tr.ni {u : List Int} {i : Int} (hi : 1 ≤ i) {A B D : List Int} {a b d : Int} (h : Tr u i A a B b D d) : Tr (-i :: u) i B b (upw B (-b) A) a D d :=
  ⟨h.y.neg_i hi, h.x.neg_j hi h.y, h.z.oth (by omega) (by omega) (by omega)⟩
theorem Tr.pj {u : List Int} {i : Int} (hi : 1 ≤ i) {A B D : List Int} {a b d : Int} (h : Tr u i A a B b D d) : Tr ((i + 1) :: u) i A a (upw B b D) d B b :=
  ⟨h.x.oth (by omega) (by omega) (by omega), h.y.pos_i (by omega) (by rw [i12]; exact h.z), by rw [← i12]; exact h.y.pos_j (by omega)⟩
theorem Tr.nj {u : List Int} {i : Int} (hi : 1 ≤ i) {A B D : List Int} {a b d : Int} (h : Tr u i A a B b D d) : Tr (-(i + 1) :: u) i A a D d (upw D (-d) B) b :=
  ⟨h.x.oth (by omega) (by omega) (by omega), Rp.neg_i (by omega) (by rw [i12]; exact h.z), by rw [← i12]; exact h.y.neg_j (by omega) (by rw [i12]; exact h.z)⟩
theorem Tr.eqv {u : List Int} {i : Int} {A B D A' B' D' : List Int} {a b d : Int} (h : Tr u i A a B b D d) (h1 : red A = red A') (h2 : red B = red B') (h3 : red D = red D') : Tr u i A' a B' b D' d :=
  ⟨h.x.eqv h1, h.y.eqv h2, h.z.eqv h3⟩
theorem Tr.len {u : List Int} {i : Int} {A B D : List Int} {a b d : Int} (h : Tr u i A a B b D d) : ln u i + ln u (i + 1) + ln u (i + 2) ≤ 2 * (A.length + B.length + D.length) + 3 := by
  have h1 := h.x.len
  have h2 := h.y.len
  have h3 := h.z.len
  unfold ln
  omega
theorem upw_cutN {B : List Int} {b : Int} (A' : List Int) : red (upw B (-b) (B ++ b :: A')) = red (B ++ A') := by
  have := upw_cut (A := B) (a := -b) A'
  rwa [Int.neg_neg] at this
/-- the words on a path, all below N -/
inductive Bel (n : Int) (N : Nat) : List Int → List Int → Prop
  | be {a b : List Int} : BE n a b → brd n a → tot n a < N → Bel n N a b
  | step {y : Int} {g : List Int} : y ≠ 0 ∧ y < n ∧ -n < y → brd n g → tot n g < N → tot n (y :: g) < N → Bel n N g (y :: g)
  | symm {a b : List Int} : Bel n N a b → Bel n N b a
  | trans {a b c : List Int} : Bel n N a b → Bel n N b c → Bel n N a c
/-- the state at a peak -/
structure Pk (n i : Int) (w A : List Int) (a : Int) (B : List Int) (b : Int) (D : List Int) (d : Int) : Prop where
  hn : n ≤ 6
  hi : 1 ≤ i
  hi2 : i + 1 < n
  ok : brd n w
  tr : Tr w i A a B b D d
  tl : ln w i + ln w (i + 1) + ln w (i + 2) = 2 * (A.length + B.length + D.length) + 3
theorem Pk.low {n i : Int} {w A B D : List Int} {a b d : Int} (h : Pk n i w A a B b D d) (v : List Int) (hv : ∀ y ∈ v, y = i ∨ y = -i ∨ y = i + 1 ∨ y = -(i + 1)) {A' B' D' : List Int} {a' b' d' : Int} (ht : Tr (v ++ w) i A' a' B' b' D' d') (hl : A'.length + B'.length + D'.length < A.length + B.length + D.length) : tot n (v ++ w) < tot n w := by
  have h1 := tot_three (w := w) h.hi h.hi2 v hv
  have h2 := ht.len
  have h3 := h.tl
  omega
theorem Pk.aa {n i : Int} {w A B D : List Int} {a b d : Int} (h : Pk n i w A a B b D d) {A' B' : List Int} (hA : A = B ++ b :: A') (hB : B = D ++ d :: B') : Bel n (tot n w) (-i :: w) (-(i + 1) :: w) := by
  obtain ⟨hn, hi, hi2, ok, tr, tl⟩ := h
  have P : Pk n i w A a B b D d := ⟨hn, hi, hi2, ok, tr, tl⟩
  have lA := congrArg List.length hA
  have lB := congrArg List.length hB
  simp only [List.length_append, List.length_cons] at lA lB
  have t1 := (tr.ni hi).eqv rfl (show red _ = red (B ++ A') by rw [hA]; exact upw_cutN A') rfl
  have t2 := (t1.nj hi).eqv rfl rfl (show red _ = red (D ++ (B' ++ A')) by rw [hB, List.append_assoc, List.cons_append]; exact upw_cutN _)
  have t3 := (t2.ni hi).eqv rfl (show red _ = red (D ++ B') by rw [hB]; exact upw_cutN _) rfl
  have s1 := (tr.nj hi).eqv rfl rfl (show red _ = red (D ++ B') by rw [hB]; exact upw_cutN _)
  have s2 := (s1.ni hi).eqv rfl (show red _ = red (D ++ (B' ++ b :: A')) by rw [hA, hB, List.append_assoc, List.cons_append]; exact upw_cutN _) rfl
  have l1 := P.low [-i] (by simp) t1 (by simp only [List.length_append]; omega)
  have l2 := P.low [-(i + 1), -i] (by simp) t2 (by simp only [List.length_append]; omega)
  have l3 := P.low [-i, -(i + 1), -i] (by simp) t3 (by simp only [List.length_append]; omega)
  have m1 := P.low [-(i + 1)] (by simp) s1 (by simp only [List.length_append]; omega)
  have m2 := P.low [-i, -(i + 1)] (by simp) s2 (by simp only [List.length_append, List.length_cons]; omega)
  have e := BE.brdN hi hi2 w
  have o1 : brd n (-i :: w) := brd_cons (by omega) ok
  have o2 : brd n (-(i + 1) :: -i :: w) := brd_cons (by omega) o1
  have o3 : brd n (-i :: -(i + 1) :: -i :: w) := brd_cons (by omega) o2
  have p1 : brd n (-(i + 1) :: w) := brd_cons (by omega) ok
  have p2 : brd n (-i :: -(i + 1) :: w) := brd_cons (by omega) p1
  have m3 : tot n (-(i + 1) :: -i :: -(i + 1) :: w) < tot n w := by rw [← tot_be hn e o3]; exact l3
  exact (Bel.step (y := -(i + 1)) (by omega) o1 l1 l2).trans ((Bel.step (y := -i) (by omega) o2 l2 l3).trans ((Bel.be e o3 l3).trans ((Bel.step (y := -(i + 1)) (by omega) p2 m2 m3).symm.trans (Bel.step (y := -i) (by omega) p1 m1 m2).symm)))
theorem Pk.bb {n i : Int} {w A B D : List Int} {a b d : Int} (h : Pk n i w A a B b D d) {B' D' : List Int} (hB : B = A ++ -a :: B') (hD : D = B ++ -b :: D') : Bel n (tot n w) (i :: w) ((i + 1) :: w) := by
  obtain ⟨hn, hi, hi2, ok, tr, tl⟩ := h
  have P : Pk n i w A a B b D d := ⟨hn, hi, hi2, ok, tr, tl⟩
  have lB := congrArg List.length hB
  have lD := congrArg List.length hD
  simp only [List.length_append, List.length_cons] at lB lD
  have t1 := (tr.pi hi).eqv (show red _ = red (A ++ B') by rw [hB]; exact upw_cut _) rfl rfl
  have t2 := (t1.pj hi).eqv rfl (show red _ = red ((A ++ B') ++ -b :: D') by rw [hD, hB, List.append_assoc, List.cons_append, List.append_assoc]; exact upw_cut _) rfl
  have t3 := (t2.pi hi).eqv (show red _ = red ((A ++ B') ++ D') by exact upw_cut _) rfl rfl
  have s1 := (tr.pj hi).eqv rfl (show red _ = red (B ++ D') by rw [hD]; exact upw_cut _) rfl
  have s2 := (s1.pi hi).eqv (show red _ = red (A ++ (B' ++ D')) by rw [hB, List.append_assoc, List.cons_append]; exact upw_cut _) rfl rfl
  have l1 := P.low [i] (by simp) t1 (by simp only [List.length_append]; omega)
  have l2 := P.low [i + 1, i] (by simp) t2 (by simp only [List.length_append, List.length_cons]; omega)
  have l3 := P.low [i, i + 1, i] (by simp) t3 (by simp only [List.length_append]; omega)
  have m1 := P.low [i + 1] (by simp) s1 (by simp only [List.length_append]; omega)
  have m2 := P.low [i, i + 1] (by simp) s2 (by simp only [List.length_append]; omega)
  have e := BE.brd hi hi2 w
  have o1 : brd n (i :: w) := brd_cons (by omega) ok
  have o2 : brd n ((i + 1) :: i :: w) := brd_cons (by omega) o1
  have o3 : brd n (i :: (i + 1) :: i :: w) := brd_cons (by omega) o2
  have p1 : brd n ((i + 1) :: w) := brd_cons (by omega) ok
  have p2 : brd n (i :: (i + 1) :: w) := brd_cons (by omega) p1
  have m3 : tot n ((i + 1) :: i :: (i + 1) :: w) < tot n w := by rw [← tot_be hn e o3]; exact l3
  exact (Bel.step (y := i + 1) (by omega) o1 l1 l2).trans ((Bel.step (y := i) (by omega) o2 l2 l3).trans ((Bel.be e o3 l3).trans ((Bel.step (y := i + 1) (by omega) p2 m2 m3).symm.trans (Bel.step (y := i) (by omega) p1 m1 m2).symm)))
theorem Pk.ba1 {n i : Int} {w A B D : List Int} {a b d : Int} (h : Pk n i w A a B b D d) {D1 B2 : List Int} (hD : D = A ++ -a :: D1) (hB : B = D ++ d :: B2) : Bel n (tot n w) (i :: w) (-(i + 1) :: w) := by
  obtain ⟨hn, hi, hi2, ok, tr, tl⟩ := h
  have P : Pk n i w A a B b D d := ⟨hn, hi, hi2, ok, tr, tl⟩
  have lB := congrArg List.length hB
  have lD := congrArg List.length hD
  simp only [List.length_append, List.length_cons] at lB lD
  have t1 := (tr.pi hi).eqv (show red _ = red (A ++ (D1 ++ d :: B2)) by rw [hB, hD, List.append_assoc, List.cons_append]; exact upw_cut _) rfl rfl
  have s1 := (tr.nj hi).eqv rfl rfl (show red _ = red (D ++ B2) by rw [hB]; exact upw_cutN _)
  have s2 := (s1.pi hi).eqv (show red _ = red (A ++ D1) by rw [hD]; exact upw_cut _) rfl rfl
  have s3 := (s2.pj hi).eqv rfl (show red _ = red (A ++ (D1 ++ B2)) by rw [hD, List.append_assoc, List.cons_append]; exact upw_cut _) rfl
  have t2 := (t1.pj hi).eqv rfl (show red _ = red (A ++ D1) by rw [hD]; exact upw_cut _) rfl
  have l1 := P.low [i] (by simp) t1 (by simp only [List.length_append, List.length_cons]; omega)
  have l2 := P.low [i + 1, i] (by simp) t2 (by simp only [List.length_append, List.length_cons]; omega)
  have m1 := P.low [-(i + 1)] (by simp) s1 (by simp only [List.length_append]; omega)
  have m2 := P.low [i, -(i + 1)] (by simp) s2 (by simp only [List.length_append]; omega)
  have m3 := P.low [i + 1, i, -(i + 1)] (by simp) s3 (by simp only [List.length_append]; omega)
  have o1 : brd n (i :: w) := brd_cons (by omega) ok
  have p1 : brd n (-(i + 1) :: w) := brd_cons (by omega) ok
  have p2 : brd n (i :: -(i + 1) :: w) := brd_cons (by omega) p1
  have p3 : brd n ((i + 1) :: i :: -(i + 1) :: w) := brd_cons (by omega) p2
  have p4 : brd n (i :: (i + 1) :: i :: -(i + 1) :: w) := brd_cons (by omega) p3
  have e : BE n (i :: (i + 1) :: i :: -(i + 1) :: w) ((i + 1) :: i :: w) := (BE.brd hi hi2 _).trans (((BE.can (n := n) (x := i + 1) (by omega) w).cons i).cons (i + 1))
  have m4 : tot n (i :: (i + 1) :: i :: -(i + 1) :: w) < tot n w := by rw [tot_be hn e p4]; exact l2
  exact (Bel.step (y := i + 1) (by omega) o1 l1 l2).trans ((Bel.be e p4 m4).symm.trans ((Bel.step (y := i) (by omega) p3 m3 m4).symm.trans ((Bel.step (y := i + 1) (by omega) p2 m2 m3).symm.trans (Bel.step (y := i) (by omega) p1 m1 m2).symm)))
theorem Pk.ba2 {n i : Int} {w A B D : List Int} {a b d : Int} (h : Pk n i w A a B b D d) {A1 B' : List Int} (hA : A = D ++ d :: A1) (hB : B = A ++ -a :: B') : Bel n (tot n w) (i :: w) (-(i + 1) :: w) := by
  obtain ⟨hn, hi, hi2, ok, tr, tl⟩ := h
  have P : Pk n i w A a B b D d := ⟨hn, hi, hi2, ok, tr, tl⟩
  have lB := congrArg List.length hB
  have lA := congrArg List.length hA
  simp only [List.length_append, List.length_cons] at lB lA
  have t1 := (tr.pi hi).eqv (show red _ = red (A ++ B') by rw [hB]; exact upw_cut _) rfl rfl
  have t2 := (t1.nj hi).eqv rfl rfl (show red _ = red (D ++ A1) by rw [hA]; exact upw_cutN _)
  have t3 := (t2.ni hi).eqv rfl (show red _ = red (D ++ (A1 ++ B')) by rw [hA, List.append_assoc, List.cons_append]; exact upw_cutN _) rfl
  have s1 := (tr.nj hi).eqv rfl rfl (show red _ = red (D ++ (A1 ++ -a :: B')) by rw [hB, hA, List.append_assoc, List.cons_append]; exact upw_cutN _)
  have s2 := (s1.ni hi).eqv rfl (show red _ = red (D ++ A1) by rw [hA]; exact upw_cutN _) rfl
  have l1 := P.low [i] (by simp) t1 (by simp only [List.length_append]; omega)
  have l2 := P.low [-(i + 1), i] (by simp) t2 (by simp only [List.length_append]; omega)
  have l3 := P.low [-i, -(i + 1), i] (by simp) t3 (by simp only [List.length_append]; omega)
  have m1 := P.low [-(i + 1)] (by simp) s1 (by simp only [List.length_append, List.length_cons]; omega)
  have m2 := P.low [-i, -(i + 1)] (by simp) s2 (by simp only [List.length_append, List.length_cons]; omega)
  have o1 : brd n (i :: w) := brd_cons (by omega) ok
  have o2 : brd n (-(i + 1) :: i :: w) := brd_cons (by omega) o1
  have o3 : brd n (-i :: -(i + 1) :: i :: w) := brd_cons (by omega) o2
  have p1 : brd n (-(i + 1) :: w) := brd_cons (by omega) ok
  have p2 : brd n (-i :: -(i + 1) :: w) := brd_cons (by omega) p1
  have e : BE n (-i :: -(i + 1) :: i :: w) ((i + 1) :: -i :: -(i + 1) :: w) := BE.brdM hi hi2 w
  have m3 : tot n ((i + 1) :: -i :: -(i + 1) :: w) < tot n w := by rw [← tot_be hn e o3]; exact l3
  exact (Bel.step (y := -(i + 1)) (by omega) o1 l1 l2).trans ((Bel.step (y := -i) (by omega) o2 l2 l3).trans ((Bel.be e o3 l3).trans ((Bel.step (y := i + 1) (by omega) p2 m2 m3).symm.trans (Bel.step (y := -i) (by omega) p1 m1 m2).symm)))
end Go.Proofs.Ytgjfpmjllpgadaa
