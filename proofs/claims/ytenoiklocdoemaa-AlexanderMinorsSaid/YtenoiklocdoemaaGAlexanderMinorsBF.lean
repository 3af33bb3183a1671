/- Burau matrices over the ring of Laurent polynomials: products, bounds, determinants. Plain facts: nothing of the program is here. -/
import Derived.Test.YtenoiklocdoemaaGAlexanderMinorsBA
import Derived.Test.YtenoiklocdoemaaGAlexanderMinorsBD
set_option linter.unusedVariables false
set_option linter.unusedSimpArgs false
namespace Go.Proofs.Ytenoiklocdoemaa

/-! ### letters -/
noncomputable def e00 (x : Int) : LP := if 0 < x then LP.mono 1 0 + LP.mono (-1) 1 else 0
noncomputable def e01 (x : Int) : LP := if 0 < x then LP.mono 1 1 else 1
noncomputable def e10 (x : Int) : LP := if 0 < x then 1 else LP.mono 1 (-1)
noncomputable def e11 (x : Int) : LP := if 0 < x then 0 else LP.mono 1 0 + LP.mono (-1) (-1)
noncomputable def unitM : Nat → Nat → LP := fun r c => if r = c then 1 else 0
/-- a matrix times the matrix of a letter -/
noncomputable def stepM (A : Nat → Nat → LP) (x : Int) : Nat → Nat → LP := fun r c =>
  if c + 1 = x.natAbs then A r (x.natAbs - 1) * e00 x + A r x.natAbs * e10 x else if c = x.natAbs then A r (x.natAbs - 1) * e01 x + A r x.natAbs * e11 x else A r c
noncomputable def burM (w : List Int) : Nat → Nat → LP := w.foldl stepM unitM
theorem burM_snoc (w : List Int) (x : Int) : burM (w ++ [x]) = stepM (burM w) x := by unfold burM; rw [List.foldl_append]; rfl
noncomputable def mmul (n : Nat) (A B : Nat → Nat → LP) : Nat → Nat → LP := fun r c => smP (List.range n) (fun j => A r j * B j c)
theorem smP_mulr {α : Type} (c : LP) (g : α → LP) (l : List α) : smP l (fun x => g x * c) = smP l g * c := by
  rw [LP.mul_comm, ← smP_mul]
  exact smP_congr (fun x _ => LP.mul_comm _ _)
theorem step_mul (n : Nat) (A B : Nat → Nat → LP) (x : Int) (r c : Nat) : stepM (mmul n A B) x r c = mmul n A (stepM B x) r c := by
  have key : ∀ (u v : LP) (p q : Nat), mmul n A B r p * u + mmul n A B r q * v = smP (List.range n) (fun j => A r j * (B j p * u + B j q * v)) := fun u v p q => by
    unfold mmul
    rw [← smP_mulr, ← smP_mulr, ← smP_add]
    exact smP_congr (fun j _ => by rw [LP.mul_add, LP.mul_assoc, LP.mul_assoc])
  unfold stepM
  by_cases h1 : c + 1 = x.natAbs
  · rw [if_pos h1, key]
    unfold mmul
    exact smP_congr (fun j _ => by simp only [if_pos h1])
  · by_cases h2 : c = x.natAbs
    · rw [if_neg h1, if_pos h2, key]
      unfold mmul
      exact smP_congr (fun j _ => by simp only [if_neg h1, if_pos h2])
    · rw [if_neg h1, if_neg h2]
      unfold mmul
      exact smP_congr (fun j _ => by simp only [if_neg h1, if_neg h2])
theorem smP_one {n c : Nat} (h : c < n) (g : Nat → LP) : smP (List.range n) (fun j => g j * unitM j c) = g c := by
  have key : ∀ m, smP (List.range m) (fun j => g j * unitM j c) = if c < m then g c else 0 := by
    intro m
    induction m with
    | zero => rfl
    | succ m ih =>
      rw [List.range_succ, smP_append, ih]
      simp only [smP, LP.add_zero]
      unfold unitM
      by_cases e : m = c
      · subst e
        rw [if_pos rfl, if_neg (by omega), if_pos (by omega), LP.mul_one, LP.zero_add]
      · rw [if_neg e, LP.mul_zero, LP.add_zero]
        by_cases h2 : c < m
        · rw [if_pos h2, if_pos (by omega)]
        · rw [if_neg h2, if_neg (by omega)]
  rw [key, if_pos h]
theorem letter_ok {n : Nat} {x : Int} (h : 1 ≤ x.natAbs ∧ x.natAbs < n) {A A' : Nat → Nat → LP} (he : ∀ r c, r < n → c < n → A r c = A' r c) : ∀ r c, r < n → c < n → stepM A x r c = stepM A' x r c := fun r c hr hc => by
  unfold stepM
  rw [he r _ hr (by omega), he r x.natAbs hr (by omega), he r c hr hc]
/-- the product of two words is the product of their matrices -/
theorem burM_app {n : Nat} (u : List Int) : ∀ (k : Nat) (v : List Int), v.length = k → (∀ x ∈ v, 1 ≤ x.natAbs ∧ x.natAbs < n) → ∀ r c, r < n → c < n → burM (u ++ v) r c = mmul n (burM u) (burM v) r c
  | 0, v, hv, _, r, c, hr, hc => by
    obtain rfl := List.eq_nil_of_length_eq_zero hv
    rw [List.append_nil]
    exact (smP_one hc (fun j => burM u r j)).symm
  | k + 1, v, hv, hl, r, c, hr, hc => by
    have hne : v ≠ [] := by intro e; rw [e] at hv; simp at hv
    obtain ⟨v', x, rfl⟩ : ∃ v' x, v = v' ++ [x] := ⟨v.dropLast, v.getLast hne, (List.dropLast_concat_getLast hne).symm⟩
    have ih := burM_app u k v' (by simpa using hv) (fun y hy => hl y (by simp [hy]))
    rw [← List.append_assoc, burM_snoc, burM_snoc, ← step_mul]
    exact letter_ok (hl x (by simp)) ih r c hr hc
/-! ### supports -/
theorem e_sup (x : Int) : Sup 1 (e00 x) ∧ Sup 1 (e01 x) ∧ Sup 1 (e10 x) ∧ Sup 1 (e11 x) := by
  unfold e00 e01 e10 e11
  refine ⟨?_, ?_, ?_, ?_⟩ <;> split
  · exact (Sup.monom _ _ (by omega)).add (Sup.monom _ _ (by omega))
  · exact Sup.zero
  · exact Sup.monom _ _ (by omega)
  · exact Sup.one (by omega)
  · exact Sup.one (by omega)
  · exact Sup.monom _ _ (by omega)
  · exact Sup.zero
  · exact (Sup.monom _ _ (by omega)).add (Sup.monom _ _ (by omega))
theorem stepM_sup {k : Nat} {A : Nat → Nat → LP} (h : ∀ r c, Sup (k : Int) (A r c)) (x : Int) : ∀ r c, Sup ((k + 1 : Nat) : Int) (stepM A x r c) := fun r c => by
  obtain ⟨h1, h2, h3, h4⟩ := e_sup x
  unfold stepM
  split
  · exact (Sup.mul (C := 1) (h _ _) h1).add (Sup.mul (C := 1) (h _ _) h3)
  · split
    · exact (Sup.mul (C := 1) (h _ _) h2).add (Sup.mul (C := 1) (h _ _) h4)
    · exact (h r c).mono (by omega)
theorem unitM_sup (r c : Nat) : Sup ((0 : Nat) : Int) (unitM r c) := by
  unfold unitM
  split
  · exact Sup.one (by omega)
  · exact Sup.zero
theorem fold_sup : ∀ (w : List Int) (k : Nat) (A : Nat → Nat → LP), (∀ r c, Sup (k : Int) (A r c)) → ∀ r c, Sup ((k + w.length : Nat) : Int) (w.foldl stepM A r c)
  | [], k, A, h, r, c => h r c
  | x :: w, k, A, h, r, c => by
    have := fold_sup w (k + 1) (stepM A x) (stepM_sup h x) r c
    rw [show k + (x :: w).length = k + 1 + w.length by simp; omega]
    exact this
theorem burM_sup (w : List Int) (r c : Nat) : Sup (w.length : Int) (burM w r c) := by
  have := fold_sup w 0 unitM unitM_sup r c
  rwa [Nat.zero_add] at this
end Go.Proofs.Ytenoiklocdoemaa

/- Determinants and bounds of Burau matrices. Plain facts: nothing of the program is here. -/
set_option linter.unusedVariables false
set_option linter.unusedSimpArgs false
namespace Go.Proofs.Ytenoiklocdoemaa

def sgJ (x : Int) : Int := if 0 < x then 1 else -1
def wS (w : List Int) : Int := (w.map sgJ).sum
/-! ### bounds of the coefficients -/
def Nb (B : Nat) (a : LP) : Prop := ∀ e, -(B : Int) ≤ a.f e ∧ a.f e ≤ B
noncomputable def psum (A : Nat → Nat → LP) (r k : Nat) : LP := smP (List.range k) (A r)
theorem psum_succ (A : Nat → Nat → LP) (r k : Nat) : psum A r (k + 1) = psum A r k + A r k := by
  unfold psum
  rw [List.range_succ, smP_append]
  simp only [smP, LP.add_zero]
theorem psum_f (A : Nat → Nat → LP) (r k : Nat) (e : Int) : (A r k).f e = (psum A r (k + 1)).f e - (psum A r k).f e := by
  rw [psum_succ, LP.add_f]; omega
theorem psum_low (A : Nat → Nat → LP) (x : Int) (r : Nat) : ∀ k, k + 1 ≤ x.natAbs → psum (stepM A x) r k = psum A r k
  | 0, _ => rfl
  | k + 1, h => by
    rw [psum_succ, psum_succ, psum_low A x r k (by omega)]
    unfold stepM
    rw [if_neg (by omega), if_neg (by omega)]
theorem e_row0 (x : Int) : e00 x + e01 x = 1 := by
  unfold e00 e01
  split
  · exact LP.ext fun e => by rw [LP.add_f, LP.add_f, LP.mono_f, LP.mono_f, LP.mono_f, LP.one_eq, LP.mono_f]; split <;> split <;> omega
  · rw [LP.zero_add]
theorem e_row1 (x : Int) : e10 x + e11 x = 1 := by
  unfold e10 e11
  split
  · rw [LP.add_zero]
  · exact LP.ext fun e => by rw [LP.add_f, LP.add_f, LP.mono_f, LP.mono_f, LP.mono_f, LP.one_eq, LP.mono_f]; split <;> split <;> omega
theorem psum_mid (A : Nat → Nat → LP) {x : Int} (hx : 1 ≤ x.natAbs) (r : Nat) : psum (stepM A x) r x.natAbs = psum A r (x.natAbs - 1) + (A r (x.natAbs - 1) * e00 x + A r x.natAbs * e10 x) := by
  obtain ⟨i, hi⟩ : ∃ i, x.natAbs = i + 1 := ⟨x.natAbs - 1, by omega⟩
  rw [hi, psum_succ, psum_low A x r i (by omega)]
  unfold stepM
  rw [hi, if_pos rfl]; rfl
theorem psum_high (A : Nat → Nat → LP) {x : Int} (hx : 1 ≤ x.natAbs) (r : Nat) : ∀ k, x.natAbs + 1 ≤ k → psum (stepM A x) r k = psum A r k
  | 0, h => by omega
  | k + 1, h => by
    by_cases e : x.natAbs = k
    · subst e
      obtain ⟨i, hi⟩ : ∃ i, x.natAbs = i + 1 := ⟨x.natAbs - 1, by omega⟩
      have h1 : A r i * e00 x + A r (i + 1) * e10 x + (A r i * e01 x + A r (i + 1) * e11 x) = A r i + A r (i + 1) := by
        have e1 : A r i * (e00 x + e01 x) + A r (i + 1) * (e10 x + e11 x) = A r i + A r (i + 1) := by rw [e_row0, e_row1, LP.mul_one, LP.mul_one]
        rw [← e1, LP.mul_add, LP.mul_add]
        ac_rfl
      rw [psum_succ, psum_mid A hx r, hi, psum_succ, psum_succ]
      have h2 : stepM A x r (i + 1) = A r i * e01 x + A r (i + 1) * e11 x := by
        unfold stepM
        rw [hi, if_neg (by omega), if_pos rfl]; rfl
      rw [h2, show i + 1 - 1 = i by omega, LP.add_assoc, h1, LP.add_assoc]
    · rw [psum_succ, psum_succ, psum_high A hx r k (by omega)]
      unfold stepM
      rw [if_neg (by omega), if_neg (by omega)]
theorem psum_nb (A : Nat → Nat → LP) {x : Int} {i : Nat} (hi : x.natAbs = i + 1) (r : Nat) {B0 B1 B2 : Nat} (h0 : Nb B0 (psum A r i)) (h1 : Nb B1 (psum A r (i + 1))) (h2 : Nb B2 (psum A r (i + 2))) : Nb (B0 + B1 + B2) (psum (stepM A x) r (i + 1)) := fun e => by
  have hm := psum_mid A (x := x) (by omega) r
  rw [hi, show i + 1 - 1 = i by omega] at hm
  rw [hm, LP.add_f, LP.add_f]
  unfold e00 e10
  by_cases h : 0 < x
  · rw [if_pos h, if_pos h, LP.mul_one, LP.mul_comm, LP.add_mul, LP.add_f, LP.mono_mul, LP.mono_mul, psum_f A r i, psum_f A r i, psum_f A r (i + 1)]
    have a0 := h0 e
    have a1 := h1 e
    have a2 := h2 e
    have c0 := h0 (e - 1)
    have c1 := h1 (e - 1)
    simp only [Int.sub_zero, Int.one_mul]
    simp only [show i + 1 + 1 = i + 2 from rfl]
    omega
  · rw [if_neg h, if_neg h, LP.mul_zero, LP.zero_f, LP.mul_comm, LP.mono_mul, psum_f A r (i + 1)]
    have a0 := h0 e
    have c1 := h1 (e - -1)
    have c2 := h2 (e - -1)
    simp only [show i + 1 + 1 = i + 2 from rfl]
    omega
def stB : Nat × Nat × Nat → Nat → Nat × Nat × Nat
  | (a, b, c), 1 => (a + b, b, c)
  | (a, b, c), 2 => (a, a + b + c, c)
  | (a, b, c), 3 => (a, b, b + c + 1)
  | v, _ => v
structure Jb (v : Nat × Nat × Nat) (A : Nat → Nat → LP) (r : Nat) : Prop where
  a : Nb v.1 (psum A r 1)
  b : Nb v.2.1 (psum A r 2)
  c : Nb v.2.2 (psum A r 3)
  d : Nb 1 (psum A r 4)
theorem Nb.mono {B C : Nat} {a : LP} (h : Nb B a) (hc : B ≤ C) : Nb C a := fun e => by have := h e; omega
theorem Jb.step {v : Nat × Nat × Nat} {A : Nat → Nat → LP} {r : Nat} (h : Jb v A r) {x : Int} (hx : 1 ≤ x.natAbs ∧ x.natAbs < 4) : Jb (stB v x.natAbs) (stepM A x) r := by
  obtain ⟨a, b, c⟩ := v
  obtain ⟨ha, hb, hc, hd⟩ := h
  have hz : Nb 0 (psum A r 0) := fun e => by show _ ∧ _; simp [psum, smP, LP.zero_f]
  rcases (show x.natAbs = 1 ∨ x.natAbs = 2 ∨ x.natAbs = 3 by omega) with e | e | e
  · rw [e]
    refine ⟨?_, ?_, ?_, ?_⟩
    · exact (psum_nb A (i := 0) e r hz ha hb).mono (by simp [stB])
    · rw [psum_high A (by omega) r 2 (by omega)]; exact hb
    · rw [psum_high A (by omega) r 3 (by omega)]; exact hc
    · rw [psum_high A (by omega) r 4 (by omega)]; exact hd
  · rw [e]
    refine ⟨?_, ?_, ?_, ?_⟩
    · rw [psum_low A x r 1 (by omega)]; exact ha
    · exact (psum_nb A (i := 1) e r ha hb hc).mono (by simp [stB])
    · rw [psum_high A (by omega) r 3 (by omega)]; exact hc
    · rw [psum_high A (by omega) r 4 (by omega)]; exact hd
  · rw [e]
    refine ⟨?_, ?_, ?_, ?_⟩
    · rw [psum_low A x r 1 (by omega)]; exact ha
    · rw [psum_low A x r 2 (by omega)]; exact hb
    · exact (psum_nb A (i := 2) e r hb hc hd).mono (by simp [stB])
    · rw [psum_high A (by omega) r 4 (by omega)]; exact hd
def finB (v : Nat × Nat × Nat) : Nat := max (max v.1 (v.1 + v.2.1)) (max (v.2.1 + v.2.2) (v.2.2 + 1))
def mxB : Nat → Nat × Nat × Nat → Nat
  | 0, v => finB v
  | k + 1, v => max (finB v) (max (mxB k (stB v 1)) (max (mxB k (stB v 2)) (mxB k (stB v 3))))
theorem Jb.fold : ∀ (w : List Int) (v : Nat × Nat × Nat) (A : Nat → Nat → LP) (r : Nat), Jb v A r → (∀ x ∈ w, 1 ≤ x.natAbs ∧ x.natAbs < 4) → Jb (w.foldl (fun v x => stB v x.natAbs) v) (w.foldl stepM A) r
  | [], _, _, _, h, _ => h
  | x :: w, v, A, r, h, hl => Jb.fold w _ _ r (h.step (hl x (by simp))) (fun y hy => hl y (by simp [hy]))
end Go.Proofs.Ytenoiklocdoemaa

/- Burau matrices in rows of polynomials. Plain facts: nothing of the program is here. -/
set_option linter.unusedVariables false
set_option linter.unusedSimpArgs false
namespace Go.Proofs.Ytenoiklocdoemaa

/-- a row of a matrix -/
noncomputable def rowP (A : Nat → Nat → LP) (n r : Nat) : List Po := (List.range n).map fun c => poW (A r c)
theorem rowP_len (A : Nat → Nat → LP) (n r : Nat) : (rowP A n r).length = n := by simp [rowP]
theorem rowP_get (A : Nat → Nat → LP) {n r c : Nat} (h : c < n) : (rowP A n r).getD c (0, []) = poW (A r c) := by simp [rowP, List.getD, h]
theorem rowP_set {A A' : Nat → Nat → LP} {n r c : Nat} {p : Po} (h1 : A' r c = A' r c) (hp : p = poW (A' r c)) (h2 : ∀ d, d < n → d ≠ c → A' r d = A r d) : (rowP A n r).set c p = rowP A' n r := by
  apply List.ext_getElem (by simp [rowP])
  intro d g1 g2
  rw [List.getElem_set]
  simp only [rowP, List.getElem_map, List.getElem_range]
  by_cases e : c = d
  · subst e; rw [if_pos rfl, hp]
  · rw [if_neg e, h2 d (by simpa [rowP] using g2) (fun h => e h.symm)]
/-- two coefficients -/
theorem cano_two (l a b : Int) (ha : in64 a) (hb : in64 b) : cano (co (l, [a, b])) = poW (LP.mono a l + LP.mono b (l + 1)) := congrArg cano (funext fun e => by
  rw [LP.add_f, LP.mono_f, LP.mono_f]
  by_cases h1 : e = l
  · subst h1
    rw [if_pos rfl, if_neg (by omega), Int.add_zero, wrp_in ha]
    simpa using co_at (e, [a, b]) 0
  · rw [if_neg h1]
    by_cases h2 : e = l + 1
    · subst h2
      rw [if_pos rfl, Int.zero_add, wrp_in hb]
      simpa using co_at (l, [a, b]) 1
    · rw [if_neg h2]
      by_cases h3 : e < l
      · rw [co_lo (by simpa using h3)]; rfl
      · rw [co_hi (by simp; omega)]; rfl)
theorem rowP_unit {n k : Nat} : (List.replicate n ((0, []) : Po)).set k (poW (LP.mono 1 0)) = rowP unitM n k := by
  apply List.ext_getElem (by simp [rowP])
  intro d g1 g2
  rw [List.getElem_set]
  simp only [rowP, List.getElem_map, List.getElem_range, List.getElem_replicate, unitM]
  by_cases e : k = d
  · rw [if_pos e, if_pos e, LP.one_eq]
  · rw [if_neg e, if_neg e]; exact (cano_zero (fun _ => rfl)).symm
/-- rows before r are turned; of row r the first c of the two columns -/
noncomputable def colM (A : Nat → Nat → LP) (x : Int) (r c : Nat) : Nat → Nat → LP := fun i j => if i < r ∨ (i = r ∧ (1 ≤ c ∧ j + 1 = x.natAbs ∨ 2 ≤ c ∧ j = x.natAbs)) then stepM A x i j else A i j
theorem colM_0 (A : Nat → Nat → LP) (x : Int) : colM A x 0 0 = A := by
  funext i j
  unfold colM
  rw [if_neg (by omega)]
theorem colM_2 (A : Nat → Nat → LP) (x : Int) (r : Nat) : colM A x r 2 = colM A x (r + 1) 0 := by
  funext i j
  unfold colM
  by_cases h1 : i < r
  · rw [if_pos (.inl h1), if_pos (by omega)]
  · by_cases h2 : i = r
    · subst h2
      rw [if_pos (show i < i + 1 ∨ _ by omega)]
      by_cases h3 : j + 1 = x.natAbs ∨ j = x.natAbs
      · rw [if_pos (by omega)]
      · rw [if_neg (by omega)]
        unfold stepM
        rw [if_neg (by omega), if_neg (by omega)]
    · rw [if_neg (by omega), if_neg (by omega)]
theorem colM_n {n i : Nat} (A : Nat → Nat → LP) (x : Int) (h : i < n) : rowP (colM A x n 0) n i = rowP (stepM A x) n i := by
  unfold rowP colM
  refine List.map_congr_left (fun j _ => ?_)
  rw [if_pos (.inl h)]
theorem colM_o {n i r : Nat} (A : Nat → Nat → LP) (x : Int) (c d : Nat) (h : i ≠ r) : rowP (colM A x r c) n i = rowP (colM A x r d) n i := by
  unfold rowP colM
  refine List.map_congr_left (fun j _ => ?_)
  by_cases h1 : i < r
  · rw [if_pos (.inl h1), if_pos (.inl h1)]
  · rw [if_neg (by omega), if_neg (by omega)]
noncomputable def eT (x : Int) (c : Nat) : LP := if c = 0 then e00 x else e01 x
noncomputable def eB (x : Int) (c : Nat) : LP := if c = 0 then e10 x else e11 x
theorem colM_s {n r c : Nat} (A : Nat → Nat → LP) {x : Int} (hx : 1 ≤ x.natAbs) (hc : c < 2) : (rowP (colM A x r c) n r).set (x.natAbs - 1 + c) (poW (A r (x.natAbs - 1) * eT x c + A r x.natAbs * eB x c)) = rowP (colM A x r (c + 1)) n r := by
  apply List.ext_getElem (by simp [rowP])
  intro d g1 g2
  rw [List.getElem_set]
  simp only [rowP, List.getElem_map, List.getElem_range, colM]
  by_cases e : x.natAbs - 1 + c = d
  · rw [if_pos e]
    rcases (show c = 0 ∧ d + 1 = x.natAbs ∨ c = 1 ∧ d = x.natAbs by omega) with ⟨rfl, q⟩ | ⟨rfl, q⟩
    · rw [if_pos (Or.inr ⟨trivial, Or.inl ⟨by omega, q⟩⟩)]
      unfold stepM
      rw [if_pos q]; rfl
    · rw [if_pos (Or.inr ⟨trivial, Or.inr ⟨by omega, q⟩⟩)]
      unfold stepM
      rw [if_neg (by omega), if_pos q]; rfl
  · rw [if_neg e]
    by_cases q : (1 ≤ c ∧ d + 1 = x.natAbs ∨ 2 ≤ c ∧ d = x.natAbs)
    · rw [if_pos (.inr ⟨trivial, q⟩), if_pos (.inr ⟨trivial, by omega⟩)]
    · rw [if_neg (fun hh => hh.elim (by omega) (fun h2 => q h2.2)), if_neg (fun hh => hh.elim (by omega) (fun h2 => by have := h2.2; omega))]
/-- where the row's own two entries are read, nothing is turned yet -/
theorem colM_r {r j : Nat} (A : Nat → Nat → LP) (x : Int) : colM A x r 0 r j = A r j := by
  unfold colM
  rw [if_neg (by omega)]
theorem e_two (x : Int) : Sup 1 (eT x 0) ∧ Sup 1 (eT x 1) ∧ Sup 1 (eB x 0) ∧ Sup 1 (eB x 1) := by
  obtain ⟨h1, h2, h3, h4⟩ := e_sup x
  exact ⟨h1, h2, h3, h4⟩
end Go.Proofs.Ytenoiklocdoemaa
