/- Determinants and bounds of Burau matrices. Plain facts: nothing of the program is here. -/
import Derived.Test.YtenoiklocdoemaaGTopBurauDetBJ
set_option linter.unusedVariables false
set_option linter.unusedSimpArgs false
namespace Go.Proofs.Ytenoiklocdoemaa

theorem sgn_next (j : Nat) : sgn (j + 1) = -(sgn j) := by
  unfold sgn
  by_cases h : j % 2 = 0
  · rw [if_pos h, if_neg (by omega)]
  · rw [if_neg h, if_pos (by omega)]; rfl
theorem mid_ok (s : Int) (X Y U V δ R : LP) (h : X + -Y = (U + -V) * δ) : LP.smul s X + (-(LP.smul s Y) + R * δ) = (LP.smul s U + (-(LP.smul s V) + R)) * δ := by
  have e1 : ∀ a b : LP, LP.smul s a + -(LP.smul s b) = LP.smul s (a + -b) := fun a b => LP.ext fun e => by
    simp only [LP.add_f, LP.neg_f, LP.smul_f]
    rw [Int.mul_add, Int.mul_neg]
  rw [← LP.add_assoc, e1, h, ← LP.add_assoc, e1, LP.add_mul _ R, LP.smul_mul]
/-- two columns that stand side by side are mixed -/
theorem lapP_two {M M' : Nat → Nat → LP} {a b : Nat} {e f g k : LP} : ∀ (rs pre post : List Nat), rs.length = pre.length + post.length + 2 → (∀ r x, x ∈ pre ++ post → M' r x = M r x) → (∀ r, M' r a = M r a * e + M r b * g) → (∀ r, M' r b = M r a * f + M r b * k) →
    lapP M' rs (pre ++ a :: b :: post) = lapP M rs (pre ++ a :: b :: post) * (e * k + -(f * g))
  | [], pre, post, hl, _, _, _ => by simp at hl
  | r :: rs, pre, post, hl, hM, ha, hb => by
    obtain ⟨δ, hδ⟩ : ∃ δ, δ = e * k + -(f * g) := ⟨_, rfl⟩
    rw [← hδ]
    have after : ∀ (q : List Nat) (j : Nat) (p1 p2 : List Nat), p1.length + p2.length + q.length = pre.length + post.length → (∀ x ∈ p1 ++ p2 ++ q, x ∈ pre ++ post) →
        altsP (fun c rest => M' r c * lapP M' rs rest) j (p1 ++ a :: b :: p2) q = altsP (fun c rest => M r c * lapP M rs rest) j (p1 ++ a :: b :: p2) q * δ := by
      intro q
      induction q with
      | nil => intro j p1 p2 _ _; simp only [altsP, LP.zero_mul]
      | cons x q ih =>
        intro j p1 p2 h1 h2
        have e1 := lapP_two (M := M) (M' := M') (a := a) (b := b) (e := e) (f := f) (g := g) (k := k) rs p1 (p2 ++ q) (by simp at hl h1 ⊢; omega) (fun r y hy => hM r y (h2 y (by
          simp only [List.mem_append, List.mem_cons] at hy ⊢
          rcases hy with hy | hy | hy
          · exact .inl (.inl hy)
          · exact .inl (.inr hy)
          · exact .inr (.inr hy)))) ha hb
        have e2 := ih (j + 1) p1 (p2 ++ [x]) (by simp at h1 ⊢; omega) (fun y hy => h2 y (by
          simp only [List.mem_append, List.mem_cons, List.not_mem_nil, or_false] at hy ⊢
          rcases hy with (hy | hy | hy) | hy
          · exact .inl (.inl hy)
          · exact .inl (.inr hy)
          · exact .inr (.inl hy)
          · exact .inr (.inr hy)))
        rw [← hδ] at e1
        simp only [altsP, List.append_assoc, List.cons_append]
        rw [e1, e2, hM r x (h2 x (by simp)), LP.add_mul, LP.smul_mul, LP.mul_assoc]
    have before : ∀ (q : List Nat) (j : Nat) (p : List Nat), p.length + q.length = pre.length → (∀ x ∈ p ++ q, x ∈ pre ++ post) →
        altsP (fun c rest => M' r c * lapP M' rs rest) j p (q ++ a :: b :: post) = altsP (fun c rest => M r c * lapP M rs rest) j p (q ++ a :: b :: post) * δ := by
      intro q
      induction q with
      | nil =>
        intro j p h1 h2
        have hp : ∀ x ∈ p ++ post, x ∈ pre ++ post := fun x hx => by
          rcases List.mem_append.1 hx with hx | hx
          · exact h2 x (by simp [hx])
          · simp [hx]
        have e3 := after post (j + 1 + 1) p [] (by simp at h1 ⊢; omega) (fun x hx => hp x (by simpa using hx))
        have l1 := lapP_lin (M := M) (M' := M') (c := b) (a := a) (b := b) (u := f) (v := k) rs p post (by simp at hl h1; omega) (fun r' y hy => hM r' y (hp y hy)) hb
        have l2 := lapP_lin (M := M) (M' := M') (c := a) (a := a) (b := b) (u := e) (v := g) rs p post (by simp at hl h1; omega) (fun r' y hy => hM r' y (hp y hy)) ha
        have hd := det2 (M r a) (M r b) (lapP M rs (p ++ a :: post)) (lapP M rs (p ++ b :: post)) e f g k
        rw [← hδ] at hd
        simp only [List.nil_append, altsP, List.append_assoc, List.cons_append]
        rw [l1, l2, ha r, hb r, e3, sgn_next, LP.smul_neg, LP.smul_neg]
        exact mid_ok _ _ _ _ _ _ _ hd
      | cons x q ih =>
        intro j p h1 h2
        have e1 := lapP_two (M := M) (M' := M') (a := a) (b := b) (e := e) (f := f) (g := g) (k := k) rs (p ++ q) post (by simp at hl h1 ⊢; omega) (fun r y hy => hM r y (by
          simp only [List.mem_append] at hy
          rcases hy with (hy | hy) | hy
          · exact h2 y (by simp [hy])
          · exact h2 y (by simp [hy])
          · simp [hy])) ha hb
        have e2 := ih (j + 1) (p ++ [x]) (by simp at h1 ⊢; omega) (fun y hy => h2 y (by
          simp only [List.mem_append, List.mem_cons, List.not_mem_nil, or_false] at hy ⊢
          rcases hy with (hy | hy) | hy
          · exact .inl hy
          · exact .inr (.inl hy)
          · exact .inr (.inr hy)))
        rw [← hδ] at e1
        simp only [altsP, List.cons_append]
        simp only [List.append_assoc] at e1
        rw [e1, e2, hM r x (h2 x (by simp)), LP.add_mul, LP.smul_mul, LP.mul_assoc]
    exact before pre 0 [] (by simp) (fun x hx => by simp at hx; simp [hx])
def sgJ (x : Int) : Int := if 0 < x then 1 else -1
theorem delta_ok (x : Int) : e00 x * e11 x + -(e01 x * e10 x) = LP.mono (-1) (sgJ x) := by
  unfold e00 e11 e01 e10 sgJ
  by_cases h : 0 < x
  · rw [if_pos h, if_pos h, if_pos h, if_pos h, if_pos h, LP.mul_zero, LP.zero_add, LP.mul_one]
    exact LP.ext fun e => by rw [LP.neg_f, LP.mono_f, LP.mono_f]; split <;> rfl
  · rw [if_neg h, if_neg h, if_neg h, if_neg h, if_neg h, LP.zero_mul, LP.zero_add, LP.one_mul]
    exact LP.ext fun e => by rw [LP.neg_f, LP.mono_f, LP.mono_f]; split <;> rfl
theorem range_two {n i : Nat} (h : 1 ≤ i ∧ i < n) : List.range n = List.range (i - 1) ++ (i - 1) :: i :: List.range' (i + 1) (n - i - 1) := by
  apply List.ext_getElem
  · simp; omega
  · intro j h1 h2
    rw [List.getElem_range, List.getElem_append]
    split
    · simp
    · rename_i h3
      simp only [List.length_range] at h3
      rw [List.getElem_cons]
      split
      · simp only [List.length_range] at *; omega
      · rw [List.getElem_cons]
        split
        · simp only [List.length_range] at *; omega
        · rw [List.getElem_range']
          simp only [List.length_range] at *
          omega
theorem det_step {n : Nat} {x : Int} (h : 1 ≤ x.natAbs ∧ x.natAbs < n) (A : Nat → Nat → LP) : lapP (stepM A x) (List.range n) (List.range n) = lapP A (List.range n) (List.range n) * LP.mono (-1) (sgJ x) := by
  have hr := range_two h
  have := lapP_two (M := A) (M' := stepM A x) (a := x.natAbs - 1) (b := x.natAbs) (e := e00 x) (f := e01 x) (g := e10 x) (k := e11 x) (List.range n) (List.range (x.natAbs - 1)) (List.range' (x.natAbs + 1) (n - x.natAbs - 1)) (by simp; omega) (fun r y hy => by
    have hy' : y + 1 ≠ x.natAbs ∧ y ≠ x.natAbs := by
      rcases List.mem_append.1 hy with hy | hy
      · have := List.mem_range.1 hy; omega
      · have := List.mem_range'_1.1 hy; omega
    unfold stepM
    rw [if_neg hy'.1, if_neg hy'.2]) (fun r => by
    unfold stepM
    rw [if_pos (by omega)]) (fun r => by
    unfold stepM
    rw [if_neg (by omega), if_pos rfl])
  rw [← hr, delta_ok] at this
  exact this
theorem det_unit : ∀ l : List Nat, l.Nodup → lapP unitM l l = 1
  | [], _ => rfl
  | r :: l, h => by
    obtain ⟨h1, h2⟩ := List.nodup_cons.1 h
    have z : ∀ (q : List Nat) (j : Nat) (p : List Nat), (∀ x ∈ q, x ≠ r) → altsP (fun c rest => unitM r c * lapP unitM l rest) j p q = 0 := by
      intro q
      induction q with
      | nil => intro j p _; rfl
      | cons x q ih =>
        intro j p hq
        simp only [altsP]
        rw [ih _ _ (fun y hy => hq y (by simp [hy]))]
        unfold unitM
        rw [if_neg (fun e => hq x (by simp) e.symm), LP.zero_mul, LP.smul_zero, LP.add_zero]
    show altsP (fun c rest => unitM r c * lapP unitM l rest) 0 [] (r :: l) = 1
    simp only [altsP]
    rw [z l _ _ (fun x hx e => h1 (by rw [← e]; exact hx)), LP.add_zero, List.nil_append, det_unit l h2]
    unfold unitM
    rw [if_pos rfl, LP.mul_one, show sgn 0 = 1 from rfl, LP.smul_one]
def wS (w : List Int) : Int := (w.map sgJ).sum
theorem det_bur {n : Nat} : ∀ (k : Nat) (w : List Int), w.length = k → (∀ x ∈ w, 1 ≤ x.natAbs ∧ x.natAbs < n) → lapP (burM w) (List.range n) (List.range n) = LP.mono (sgn k) (wS w)
  | 0, w, hw, _ => by
    obtain rfl := List.eq_nil_of_length_eq_zero hw
    exact det_unit _ List.nodup_range
  | k + 1, w, hw, hl => by
    have hne : w ≠ [] := by intro e; rw [e] at hw; simp at hw
    obtain ⟨v, x, rfl⟩ : ∃ v' x, w = v' ++ [x] := ⟨w.dropLast, w.getLast hne, (List.dropLast_concat_getLast hne).symm⟩
    rw [burM_snoc, det_step (hl x (by simp)), det_bur k v (by simpa using hw) (fun y hy => hl y (by simp [hy])), LP.mono_mono, sgn_next]
    congr 1
    · omega
    · simp [wS]
/-! ### bounds of the coefficients -/
def Nb (B : Nat) (a : LP) : Prop := ∀ e, -(B : Int) ≤ a.f e ∧ a.f e ≤ B
noncomputable def psum (A : Nat → Nat → LP) (r k : Nat) : LP := smP (List.range k) (A r)
theorem psum_succ (A : Nat → Nat → LP) (r k : Nat) : psum A r (k + 1) = psum A r k + A r k := by
  unfold psum
  rw [List.range_succ, smP_append]
  simp only [smP, LP.add_zero]
theorem psum_f (A : Nat → Nat → LP) (r k : Nat) (e : Int) : (A r k).f e = (psum A r (k + 1)).f e - (psum A r k).f e := by
  rw [psum_succ, LP.add_f]; omega
theorem psum_low (A : Nat → Nat → LP) (x : Int) (r : Nat) : ∀ k, k + 1 ≤ x.natAbs → psum (stepM A x) r k = psum A r k
  | 0, _ => rfl
  | k + 1, h => by
    rw [psum_succ, psum_succ, psum_low A x r k (by omega)]
    unfold stepM
    rw [if_neg (by omega), if_neg (by omega)]
theorem e_row0 (x : Int) : e00 x + e01 x = 1 := by
  unfold e00 e01
  split
  · exact LP.ext fun e => by rw [LP.add_f, LP.add_f, LP.mono_f, LP.mono_f, LP.mono_f, LP.one_eq, LP.mono_f]; split <;> split <;> omega
  · rw [LP.zero_add]
theorem e_row1 (x : Int) : e10 x + e11 x = 1 := by
  unfold e10 e11
  split
  · rw [LP.add_zero]
  · exact LP.ext fun e => by rw [LP.add_f, LP.add_f, LP.mono_f, LP.mono_f, LP.mono_f, LP.one_eq, LP.mono_f]; split <;> split <;> omega
theorem psum_mid (A : Nat → Nat → LP) {x : Int} (hx : 1 ≤ x.natAbs) (r : Nat) : psum (stepM A x) r x.natAbs = psum A r (x.natAbs - 1) + (A r (x.natAbs - 1) * e00 x + A r x.natAbs * e10 x) := by
  obtain ⟨i, hi⟩ : ∃ i, x.natAbs = i + 1 := ⟨x.natAbs - 1, by omega⟩
  rw [hi, psum_succ, psum_low A x r i (by omega)]
  unfold stepM
  rw [hi, if_pos rfl]; rfl
theorem psum_high (A : Nat → Nat → LP) {x : Int} (hx : 1 ≤ x.natAbs) (r : Nat) : ∀ k, x.natAbs + 1 ≤ k → psum (stepM A x) r k = psum A r k
  | 0, h => by omega
  | k + 1, h => by
    by_cases e : x.natAbs = k
    · subst e
      obtain ⟨i, hi⟩ : ∃ i, x.natAbs = i + 1 := ⟨x.natAbs - 1, by omega⟩
      have h1 : A r i * e00 x + A r (i + 1) * e10 x + (A r i * e01 x + A r (i + 1) * e11 x) = A r i + A r (i + 1) := by
        have e1 : A r i * (e00 x + e01 x) + A r (i + 1) * (e10 x + e11 x) = A r i + A r (i + 1) := by rw [e_row0, e_row1, LP.mul_one, LP.mul_one]
        rw [← e1, LP.mul_add, LP.mul_add]
        ac_rfl
      rw [psum_succ, psum_mid A hx r, hi, psum_succ, psum_succ]
      have h2 : stepM A x r (i + 1) = A r i * e01 x + A r (i + 1) * e11 x := by
        unfold stepM
        rw [hi, if_neg (by omega), if_pos rfl]; rfl
      rw [h2, show i + 1 - 1 = i by omega, LP.add_assoc, h1, LP.add_assoc]
    · rw [psum_succ, psum_succ, psum_high A hx r k (by omega)]
      unfold stepM
      rw [if_neg (by omega), if_neg (by omega)]
theorem psum_nb (A : Nat → Nat → LP) {x : Int} {i : Nat} (hi : x.natAbs = i + 1) (r : Nat) {B0 B1 B2 : Nat} (h0 : Nb B0 (psum A r i)) (h1 : Nb B1 (psum A r (i + 1))) (h2 : Nb B2 (psum A r (i + 2))) : Nb (B0 + B1 + B2) (psum (stepM A x) r (i + 1)) := fun e => by
  have hm := psum_mid A (x := x) (by omega) r
  rw [hi, show i + 1 - 1 = i by omega] at hm
  rw [hm, LP.add_f, LP.add_f]
  unfold e00 e10
  by_cases h : 0 < x
  · rw [if_pos h, if_pos h, LP.mul_one, LP.mul_comm, LP.add_mul, LP.add_f, LP.mono_mul, LP.mono_mul, psum_f A r i, psum_f A r i, psum_f A r (i + 1)]
    have a0 := h0 e
    have a1 := h1 e
    have a2 := h2 e
    have c0 := h0 (e - 1)
    have c1 := h1 (e - 1)
    simp only [Int.sub_zero, Int.one_mul]
    simp only [show i + 1 + 1 = i + 2 from rfl]
    omega
  · rw [if_neg h, if_neg h, LP.mul_zero, LP.zero_f, LP.mul_comm, LP.mono_mul, psum_f A r (i + 1)]
    have a0 := h0 e
    have c1 := h1 (e - -1)
    have c2 := h2 (e - -1)
    simp only [show i + 1 + 1 = i + 2 from rfl]
    omega
def stB : Nat × Nat × Nat → Nat → Nat × Nat × Nat
  | (a, b, c), 1 => (a + b, b, c)
  | (a, b, c), 2 => (a, a + b + c, c)
  | (a, b, c), 3 => (a, b, b + c + 1)
  | v, _ => v
structure Jb (v : Nat × Nat × Nat) (A : Nat → Nat → LP) (r : Nat) : Prop where
  a : Nb v.1 (psum A r 1)
  b : Nb v.2.1 (psum A r 2)
  c : Nb v.2.2 (psum A r 3)
  d : Nb 1 (psum A r 4)
theorem Nb.mono {B C : Nat} {a : LP} (h : Nb B a) (hc : B ≤ C) : Nb C a := fun e => by have := h e; omega
theorem Jb.step {v : Nat × Nat × Nat} {A : Nat → Nat → LP} {r : Nat} (h : Jb v A r) {x : Int} (hx : 1 ≤ x.natAbs ∧ x.natAbs < 4) : Jb (stB v x.natAbs) (stepM A x) r := by
  obtain ⟨a, b, c⟩ := v
  obtain ⟨ha, hb, hc, hd⟩ := h
  have hz : Nb 0 (psum A r 0) := fun e => by show _ ∧ _; simp [psum, smP, LP.zero_f]
  rcases (show x.natAbs = 1 ∨ x.natAbs = 2 ∨ x.natAbs = 3 by omega) with e | e | e
  · rw [e]
    refine ⟨?_, ?_, ?_, ?_⟩
    · exact (psum_nb A (i := 0) e r hz ha hb).mono (by simp [stB])
    · rw [psum_high A (by omega) r 2 (by omega)]; exact hb
    · rw [psum_high A (by omega) r 3 (by omega)]; exact hc
    · rw [psum_high A (by omega) r 4 (by omega)]; exact hd
  · rw [e]
    refine ⟨?_, ?_, ?_, ?_⟩
    · rw [psum_low A x r 1 (by omega)]; exact ha
    · exact (psum_nb A (i := 1) e r ha hb hc).mono (by simp [stB])
    · rw [psum_high A (by omega) r 3 (by omega)]; exact hc
    · rw [psum_high A (by omega) r 4 (by omega)]; exact hd
  · rw [e]
    refine ⟨?_, ?_, ?_, ?_⟩
    · rw [psum_low A x r 1 (by omega)]; exact ha
    · rw [psum_low A x r 2 (by omega)]; exact hb
    · exact (psum_nb A (i := 2) e r hb hc hd).mono (by simp [stB])
    · rw [psum_high A (by omega) r 4 (by omega)]; exact hd
def finB (v : Nat × Nat × Nat) : Nat := max (max v.1 (v.1 + v.2.1)) (max (v.2.1 + v.2.2) (v.2.2 + 1))
def mxB : Nat → Nat × Nat × Nat → Nat
  | 0, v => finB v
  | k + 1, v => max (finB v) (max (mxB k (stB v 1)) (max (mxB k (stB v 2)) (mxB k (stB v 3))))
theorem mxB_ok : ∀ (w : List Int) (k : Nat) (v : Nat × Nat × Nat), w.length ≤ k → (∀ x ∈ w, 1 ≤ x.natAbs ∧ x.natAbs < 4) → finB (w.foldl (fun v x => stB v x.natAbs) v) ≤ mxB k v
  | [], 0, v, _, _ => Nat.le_refl _
  | [], k + 1, v, _, _ => by unfold mxB; exact Nat.le_max_left _ _
  | x :: w, 0, v, h, _ => by simp at h
  | x :: w, k + 1, v, h, hl => by
    have ih := mxB_ok w k (stB v x.natAbs) (by simpa using h) (fun y hy => hl y (by simp [hy]))
    have hx := hl x (by simp)
    simp only [List.foldl_cons]
    refine Nat.le_trans ih ?_
    show _ ≤ max (finB v) (max (mxB k (stB v 1)) (max (mxB k (stB v 2)) (mxB k (stB v 3))))
    rcases (show x.natAbs = 1 ∨ x.natAbs = 2 ∨ x.natAbs = 3 by omega) with e | e | e <;> rw [e] <;> omega
theorem Jb.fold : ∀ (w : List Int) (v : Nat × Nat × Nat) (A : Nat → Nat → LP) (r : Nat), Jb v A r → (∀ x ∈ w, 1 ≤ x.natAbs ∧ x.natAbs < 4) → Jb (w.foldl (fun v x => stB v x.natAbs) v) (w.foldl stepM A) r
  | [], _, _, _, h, _ => h
  | x :: w, v, A, r, h, hl => Jb.fold w _ _ r (h.step (hl x (by simp))) (fun y hy => hl y (by simp [hy]))
theorem psum_unit (r k : Nat) : Nb 1 (psum unitM r k) := fun e => by
  have key : (psum unitM r k) = if r < k then 1 else 0 := by
    induction k with
    | zero => rfl
    | succ k ih =>
      rw [psum_succ, ih]
      unfold unitM
      by_cases h : r = k
      · subst h
        rw [if_neg (by omega), if_pos rfl, if_pos (by omega), LP.zero_add]
      · rw [if_neg h, LP.add_zero]
        by_cases h2 : r < k
        · rw [if_pos h2, if_pos (by omega)]
        · rw [if_neg h2, if_neg (by omega)]
  rw [key]
  split
  · rw [LP.one_eq, LP.mono_f]; split <;> omega
  · rw [LP.zero_f]; omega
theorem mxB_9 : mxB 9 (1, 1, 1) ≤ 1000 := by decide +kernel
/-- the coefficients are small -/
theorem burM_nb {w : List Int} (hl : w.length ≤ 9) (hw : ∀ x ∈ w, 1 ≤ x.natAbs ∧ x.natAbs < 4) (r c : Nat) (hc : c < 4) : Nb 1000 (burM w r c) := by
  have hj := Jb.fold w (1, 1, 1) unitM r ⟨psum_unit r 1, psum_unit r 2, psum_unit r 3, psum_unit r 4⟩ hw
  have hb := Nat.le_trans (mxB_ok w 9 (1, 1, 1) hl hw) mxB_9
  generalize w.foldl (fun v x => stB v x.natAbs) (1, 1, 1) = v at hj hb
  obtain ⟨a, b, d⟩ := v
  obtain ⟨h1, h2, h3, h4⟩ := hj
  have hz : ∀ e, (psum (burM w) r 0).f e = 0 := fun e => rfl
  unfold finB at hb
  simp only at hb h1 h2 h3
  intro e
  rw [psum_f]
  have k1 := h1 e
  have k2 := h2 e
  have k3 := h3 e
  have k4 := h4 e
  have kz := hz e
  have hb1 : a ≤ 1000 := by omega
  have hb2 : a + b ≤ 1000 := by omega
  have hb3 : b + d ≤ 1000 := by omega
  have hb4 : d + 1 ≤ 1000 := by omega
  change -(a : Int) ≤ (psum (burM w) r 1).f e ∧ (psum (burM w) r 1).f e ≤ a at k1
  change -(b : Int) ≤ (psum (burM w) r 2).f e ∧ (psum (burM w) r 2).f e ≤ b at k2
  change -(d : Int) ≤ (psum (burM w) r 3).f e ∧ (psum (burM w) r 3).f e ≤ d at k3
  change -((1 : Nat) : Int) ≤ (psum (burM w) r 4).f e ∧ (psum (burM w) r 4).f e ≤ (1 : Nat) at k4
  match c, hc with
  | 0, _ => simp only [Nat.zero_add]; omega
  | 1, _ => simp only [Nat.reduceAdd]; omega
  | 2, _ => simp only [Nat.reduceAdd]; omega
  | 3, _ => simp only [Nat.reduceAdd]; omega
end Go.Proofs.Ytenoiklocdoemaa
