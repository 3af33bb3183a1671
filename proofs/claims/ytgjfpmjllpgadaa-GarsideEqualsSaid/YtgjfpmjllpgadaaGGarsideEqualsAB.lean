/- Words that are equal as maps of the free group; the relations of braids. Plain facts: nothing of the program is here. -/
import Derived.Test.YtgjfpmjllpgadaaGGarsideEqualsAA
set_option linter.unusedVariables false
set_option linter.unusedSimpArgs false
namespace Go.Proofs.Ytgjfpmjllpgadaa

/-- equal as maps -/
def WE (n : Int) (a b : List Int) : Prop := ∀ u, inr n u → Rd u → img a u = img b u
theorem WE.refl {n : Int} (a : List Int) : WE n a a := fun _ _ _ => rfl
theorem WE.symm {n : Int} {a b : List Int} (h : WE n a b) : WE n b a := fun u h1 h2 => (h u h1 h2).symm
theorem WE.trans {n : Int} {a b c : List Int} (h : WE n a b) (h' : WE n b c) : WE n a c := fun u h1 h2 => (h u h1 h2).trans (h' u h1 h2)
theorem WE.app {n : Int} {a b c d : List Int} (hb : brd n b) (h : WE n a b) (h' : WE n c d) : WE n (a ++ c) (b ++ d) := fun u h1 h2 => by
  rw [img_app, img_app, h u h1 h2]
  exact h' _ (inr_img hb h1) (rd_img h2)
theorem WE.left {n : Int} {c d : List Int} (a : List Int) (ha : brd n a) (h : WE n c d) : WE n (a ++ c) (a ++ d) := WE.app ha (WE.refl a) h
theorem WE.right {n : Int} {a b : List Int} (c : List Int) (hb : brd n b) (h : WE n a b) : WE n (a ++ c) (b ++ c) := WE.app hb h (WE.refl c)
theorem WE.cons {n x : Int} {c d : List Int} (hx : x ≠ 0 ∧ x < n ∧ -n < x) (h : WE n c d) : WE n (x :: c) (x :: d) := WE.left [x] (fun z hz => by simp only [List.mem_singleton] at hz; subst hz; exact hx) h
theorem WE.cancel {n : Int} {a : List Int} (ha : brd n a) : WE n (a ++ invW a) [] := fun u h1 h2 => img_back ha h1 h2
theorem WE.cancel' {n : Int} {a : List Int} (ha : brd n a) : WE n (invW a ++ a) [] := fun u h1 h2 => img_forth ha h1 h2
theorem brd_app {n : Int} {a b : List Int} (ha : brd n a) (hb : brd n b) : brd n (a ++ b) := fun z hz => by
  rcases List.mem_append.1 hz with h | h
  · exact ha z h
  · exact hb z h
theorem brd_cons {n x : Int} {a : List Int} (hx : x ≠ 0 ∧ x < n ∧ -n < x) (ha : brd n a) : brd n (x :: a) := fun z hz => by
  rcases List.mem_cons.1 hz with h | h
  · subst h; exact hx
  · exact ha z h
theorem brd_nil {n : Int} : brd n [] := fun _ hz => by cases hz
theorem brd_one {n x : Int} (hx : x ≠ 0 ∧ x < n ∧ -n < x) : brd n [x] := brd_cons hx brd_nil
/-- a word that is cancelled on the left -/
theorem WE.lcan {n : Int} {a c d : List Int} (ha : brd n a) (h : WE n (a ++ c) (a ++ d)) : WE n c d := fun u h1 h2 => by
  have := h (img (invW a) u) (inr_img (brd_inv ha) h1) (rd_img h2)
  rwa [img_app, img_app, ← img_app (invW a) a, img_forth ha h1 h2] at this
/-- enough: the generators -/
theorem WE.of {n : Int} {a b : List Int} (ha : brd n a) (hb : brd n b) (h : ∀ x, 1 ≤ x ∧ x ≤ n → img a [x] = img b [x]) : WE n a b := fun u h1 h2 => by
  rw [img_hom ha h1 h2, img_hom hb h1 h2]
  have : u.flatMap (hom (prg a)) = u.flatMap (hom (prg b)) := hom_congr (fun j hj => by rw [← img_one ha hj, ← img_one hb hj, h j hj]) h1
  rw [this]
theorem gen6 {P : Int → Prop} {n : Int} (hn : n ≤ 6) (h1 : P 1) (h2 : P 2) (h3 : P 3) (h4 : P 4) (h5 : P 5) (h6 : P 6) : ∀ x, 1 ≤ x ∧ x ≤ n → P x := fun x hx => by
  have : x = 1 ∨ x = 2 ∨ x = 3 ∨ x = 4 ∨ x = 5 ∨ x = 6 := by omega
  rcases this with rfl | rfl | rfl | rfl | rfl | rfl <;> assumption
/-- three letters beside each other -/
theorem WE.braid {n i : Int} (hn : n ≤ 6) (hi : 1 ≤ i ∧ i + 1 < n) : WE n [i, i + 1, i] [i + 1, i, i + 1] := by
  have h1 : i ≠ 0 ∧ i < n ∧ -n < i := by omega
  have h2 : i + 1 ≠ 0 ∧ i + 1 < n ∧ -n < i + 1 := by omega
  refine WE.of (brd_cons h1 (brd_cons h2 (brd_one h1))) (brd_cons h2 (brd_cons h1 (brd_one h2))) ?_
  have : i = 1 ∨ i = 2 ∨ i = 3 ∨ i = 4 := by omega
  rcases this with rfl | rfl | rfl | rfl <;> refine gen6 hn ?_ ?_ ?_ ?_ ?_ ?_ <;> decide
/-- letters that are far from each other -/
theorem WE.far {n i j : Int} (hn : n ≤ 6) (hi : 1 ≤ i) (hij : i + 2 ≤ j) (hj : j < n) : WE n [i, j] [j, i] := by
  have h1 : i ≠ 0 ∧ i < n ∧ -n < i := by omega
  have h2 : j ≠ 0 ∧ j < n ∧ -n < j := by omega
  refine WE.of (brd_cons h1 (brd_one h2)) (brd_cons h2 (brd_one h1)) ?_
  have : (i = 1 ∧ (j = 3 ∨ j = 4 ∨ j = 5)) ∨ (i = 2 ∧ (j = 4 ∨ j = 5)) ∨ (i = 3 ∧ j = 5) := by omega
  rcases this with ⟨rfl, rfl | rfl | rfl⟩ | ⟨rfl, rfl | rfl⟩ | ⟨rfl, rfl⟩ <;> refine gen6 hn ?_ ?_ ?_ ?_ ?_ ?_ <;> decide
/-- equal words: the one after the inverse of the other changes nothing -/
theorem WE.eqv {n : Int} {a b : List Int} (ha : brd n a) (h : WE n a b) {u : List Int} (hu : inr n u) (hr : Rd u) : img (invW a ++ b) u = u := by
  rw [img_app, ← h _ (inr_img (brd_inv ha) hu) (rd_img hr), ← img_app, img_forth ha hu hr]
end Go.Proofs.Ytgjfpmjllpgadaa

/-
  The cycles of a permutation, as the program finds them. Plain facts: nothing of the program is here.
-/
set_option linter.unusedVariables false
set_option linter.unusedSimpArgs false
namespace Go.Proofs.Ytgjfpmjllpgadaa

def mark (D : Nat → Bool) (x : Nat) : Nat → Bool := fun j => if j = x then true else D j
/-- From x on, along xs, till an index that is marked. -/
def wk (xs : List Int) : Nat → Nat → (Nat → Bool) → List Int → List Int × (Nat → Bool)
  | 0, _, D, c => (c, D)
  | f + 1, x, D, c => if D x then (c, D) else wk xs f (xs.getD x 0).toNat (mark D x) (c ++ [(x : Int)])
def freeN (D : Nat → Bool) : Nat → Nat
  | 0 => 0
  | n + 1 => freeN D n + if D n then 0 else 1

theorem freeN_le (D : Nat → Bool) : ∀ n, freeN D n ≤ n
  | 0 => Nat.le_refl _
  | n + 1 => by have := freeN_le D n; simp only [freeN]; split <;> omega
theorem freeN_mark_ge {D : Nat → Bool} {x : Nat} : ∀ n, n ≤ x → freeN (mark D x) n = freeN D n
  | 0, _ => rfl
  | n + 1, h => by
    have := freeN_mark_ge (D := D) (x := x) n (by omega)
    simp only [freeN, this]
    have e : mark D x n = D n := by unfold mark; rw [if_neg (by omega)]
    rw [e]
theorem freeN_mark {D : Nat → Bool} {x : Nat} (hD : D x = false) : ∀ n, x < n → freeN (mark D x) n + 1 = freeN D n
  | 0, h => absurd h (by omega)
  | n + 1, h => by
    by_cases e : x = n
    · subst e
      have := freeN_mark_ge (D := D) (x := x) x (Nat.le_refl _)
      simp [freeN, this, hD, mark]
    · have := freeN_mark hD n (by omega)
      have e' : mark D x n = D n := by unfold mark; rw [if_neg (by omega)]
      simp only [freeN, e']
      omega
theorem freeN_pos {D : Nat → Bool} {x n : Nat} (hD : D x = false) (hx : x < n) : 0 < freeN D n := by
  have := freeN_mark hD n hx; omega

def InRange (xs : List Int) : Prop := ∀ i, i < xs.length → 0 ≤ xs.getD i 0 ∧ xs.getD i 0 < xs.length

theorem wk_enough {xs : List Int} (hr : InRange xs) : ∀ (f f' x : Nat) (D : Nat → Bool) (c : List Int), x < xs.length → freeN D xs.length ≤ f → freeN D xs.length ≤ f' → wk xs f x D c = wk xs f' x D c
  | 0, f', x, D, c, hx, h, h' => by
    have hD : D x = true := by
      cases hD : D x
      · have := freeN_pos hD hx; omega
      · rfl
    cases f' <;> simp [wk, hD]
  | f + 1, f', x, D, c, hx, h, h' => by
    cases hD : D x
    · have hp := freeN_pos hD hx
      have hm := freeN_mark hD xs.length hx
      obtain ⟨f'', rfl⟩ : ∃ f'', f' = f'' + 1 := ⟨f' - 1, by omega⟩
      simp only [wk, hD]
      have h2 := hr x hx
      exact wk_enough hr f f'' _ _ _ (by omega) (by omega) (by omega)
    · cases f' <;> simp [wk, hD]

/-- After k rounds: the cycles that were found, and what is marked. -/
def cycAt (xs : List Int) : Nat → List (List Int) × (Nat → Bool)
  | 0 => ([], fun _ => false)
  | k + 1 =>
    let r := wk xs xs.length k (cycAt xs k).2 []
    (if r.1 = [] then (cycAt xs k).1 else (cycAt xs k).1 ++ [r.1], r.2)
def cyclesOf (xs : List Int) : List (List Int) := (cycAt xs xs.length).1

/-- What a round of the inner loop has come to: c so far, D marked, x next; R at the end. -/
structure Wk (xs : List Int) (x : Nat) (D : Nat → Bool) (c : List Int) (R : List Int × (Nat → Bool)) : Prop where
  hx : x < xs.length
  all : ∀ i, i < c.length → 0 ≤ c.getD i 0 ∧ c.getD i 0 < xs.length
  len : c.length + freeN D xs.length ≤ xs.length
  fin : ∀ f, freeN D xs.length ≤ f → wk xs f x D c = R

theorem Wk.start {xs : List Int} (hr : InRange xs) {k : Nat} (hk : k < xs.length) (D : Nat → Bool) : Wk xs k D [] (wk xs xs.length k D []) :=
  ⟨hk, by simp, by simpa using freeN_le D _, fun f hf => wk_enough hr f _ k D [] hk hf (freeN_le D _)⟩
theorem Wk.done {xs : List Int} {x : Nat} {D : Nat → Bool} {c : List Int} {R} (h : Wk xs x D c R) (hD : D x = true) : R = (c, D) := by
  rw [← h.fin (freeN D xs.length + 1) (by omega)]
  simp [wk, hD]
theorem Wk.step {xs : List Int} (hr : InRange xs) {x : Nat} {D : Nat → Bool} {c : List Int} {R} (h : Wk xs x D c R) (hD : D x = false) :
    Wk xs (xs.getD x 0).toNat (mark D x) (c ++ [(x : Int)]) R ∧ freeN (mark D x) xs.length < freeN D xs.length := by
  have hx := h.hx
  have hm := freeN_mark hD xs.length hx
  have h2 := hr x hx
  refine ⟨⟨by omega, ?_, ?_, ?_⟩, by omega⟩
  · intro i hi
    by_cases e : i < c.length
    · have := h.all i e
      simpa [List.getD, List.getElem?_append_left e] using this
    · obtain rfl : i = c.length := by simp at hi; omega
      simp [List.getD]; omega
  · have := h.len
    simp; omega
  · intro f hf
    have := h.fin (f + 1) (by omega)
    simpa [wk, hD] using this

theorem cycAt_succ_some {xs : List Int} {k : Nat} {c : List Int} {D : Nat → Bool} (h : wk xs xs.length k (cycAt xs k).2 [] = (c, D)) (hc : c ≠ []) : cycAt xs (k + 1) = ((cycAt xs k).1 ++ [c], D) := by
  simp only [cycAt, h]; rw [if_neg hc]
theorem cycAt_succ_none {xs : List Int} {k : Nat} {c : List Int} {D : Nat → Bool} (h : wk xs xs.length k (cycAt xs k).2 [] = (c, D)) (hc : c = []) : cycAt xs (k + 1) = ((cycAt xs k).1, D) := by
  simp only [cycAt, h]; rw [if_pos hc]

theorem wk_len {xs : List Int} (hr : InRange xs) : ∀ (f x : Nat) (D : Nat → Bool) (c : List Int), x < xs.length → c.length + freeN D xs.length ≤ xs.length → (wk xs f x D c).1.length ≤ xs.length
  | 0, x, D, c, hx, h => by simp only [wk]; omega
  | f + 1, x, D, c, hx, h => by
    cases hD : D x
    · have hm := freeN_mark hD xs.length hx
      have h2 := hr x hx
      simp only [wk, hD]
      exact wk_len hr f _ _ _ (by omega) (by simp; omega)
    · simp [wk, hD]; omega
theorem cycAt_lens {xs : List Int} (hr : InRange xs) : ∀ k, k ≤ xs.length → ∀ c ∈ (cycAt xs k).1, 1 ≤ c.length ∧ c.length ≤ xs.length
  | 0, _ => by simp [cycAt]
  | k + 1, hk => by
    have ih := cycAt_lens hr k (by omega)
    have hl := wk_len hr xs.length k (cycAt xs k).2 [] (by omega) (by simpa using freeN_le _ _)
    intro c hc
    simp only [cycAt] at hc
    split at hc
    · exact ih c hc
    · rename_i hne
      rcases List.mem_append.1 hc with h | h
      · exact ih c h
      · simp at h
        subst h
        exact ⟨List.length_pos_iff.2 hne, hl⟩
theorem cyclesOf_lens {xs : List Int} (hr : InRange xs) : ∀ c ∈ cyclesOf xs, 1 ≤ c.length ∧ c.length ≤ xs.length := cycAt_lens hr _ (Nat.le_refl _)

/-- The order, as the program reckons it: after the first k cycles. -/
def ordAt (cs : List (List Int)) : Nat → Nat
  | 0 => 1
  | k + 1 => ordAt cs k / Nat.gcd (ordAt cs k) (cs.getD k []).length * (cs.getD k []).length
def orderOf (xs : List Int) : Nat := ordAt (cyclesOf xs) (cyclesOf xs).length

theorem ord_step_lcm {o l : Nat} : o / Nat.gcd o l * l = Nat.lcm o l := by
  unfold Nat.lcm
  rw [Nat.mul_comm o l, Nat.mul_div_assoc l (Nat.gcd_dvd_left o l), Nat.mul_comm]
theorem ordAt_dvd {cs : List (List Int)} (h : ∀ c ∈ cs, 1 ≤ c.length ∧ c.length ≤ 9) : ∀ k, k ≤ cs.length → ordAt cs k ∣ 2520
  | 0, _ => ⟨2520, by simp [ordAt]⟩
  | k + 1, hk => by
    have ih := ordAt_dvd h k (by omega)
    simp only [ordAt]
    rw [ord_step_lcm]
    refine Nat.lcm_dvd ih ?_
    rw [getD_lt [] (by omega : k < cs.length)]
    obtain ⟨h1, h2⟩ := h _ (List.getElem_mem (h := (by omega : k < cs.length)))
    generalize cs[k].length = l at h1 h2
    match l, h1, h2 with
    | 1, _, _ => decide
    | 2, _, _ => decide
    | 3, _, _ => decide
    | 4, _, _ => decide
    | 5, _, _ => decide
    | 6, _, _ => decide
    | 7, _, _ => decide
    | 8, _, _ => decide
    | 9, _, _ => decide
theorem ordAt_bd {cs : List (List Int)} (h : ∀ c ∈ cs, 1 ≤ c.length ∧ c.length ≤ 9) (k : Nat) (hk : k ≤ cs.length) : 1 ≤ ordAt cs k ∧ ordAt cs k ≤ 2520 := by
  have h1 := ordAt_dvd h k hk
  exact ⟨Nat.pos_of_dvd_of_pos h1 (by decide), Nat.le_of_dvd (by decide) h1⟩

end Go.Proofs.Ytgjfpmjllpgadaa

/-
  Powers of a permutation: the order that the program reckons takes every point back. Plain facts: nothing of the program is here.
-/
set_option linter.unusedVariables false
set_option linter.unusedSimpArgs false
namespace Go.Proofs.Ytgjfpmjllpgadaa

def itr (f : Nat → Nat) : Nat → Nat → Nat
  | 0, i => i
  | k + 1, i => f (itr f k i)
theorem itr_add (f : Nat → Nat) (a : Nat) : ∀ b i, itr f (a + b) i = itr f b (itr f a i)
  | 0, i => rfl
  | b + 1, i => by rw [← Nat.add_assoc]; simp only [itr]; rw [itr_add f a b i]
theorem itr_one (f : Nat → Nat) (k i : Nat) : itr f (k + 1) i = itr f k (f i) := by
  rw [Nat.add_comm, itr_add]; rfl
theorem itr_mul {f : Nat → Nat} {L i : Nat} (h : itr f L i = i) : ∀ q, itr f (L * q) i = i
  | 0 => rfl
  | q + 1 => by rw [Nat.mul_succ, itr_add, itr_mul h q, h]
theorem itr_lt {f : Nat → Nat} {n : Nat} (hf : ∀ i, i < n → f i < n) : ∀ k i, i < n → itr f k i < n
  | 0, i, h => h
  | k + 1, i, h => hf _ (itr_lt hf k i h)
/-- the map of a list -/
def fn (xs : List Int) (i : Nat) : Nat := (xs.getD i 0).toNat
structure Pm (xs : List Int) : Prop where
  rng : InRange xs
  nd : xs.Nodup
theorem Pm.lt {xs : List Int} (h : Pm xs) : ∀ i, i < xs.length → fn xs i < xs.length := fun i hi => by
  have := h.rng i hi; unfold fn; omega
theorem Pm.val {xs : List Int} (h : Pm xs) {i : Nat} (hi : i < xs.length) : xs.getD i 0 = (fn xs i : Int) := by
  have := h.rng i hi; unfold fn; omega
theorem Pm.inj {xs : List Int} (h : Pm xs) : ∀ i j, i < xs.length → j < xs.length → fn xs i = fn xs j → i = j := fun i j hi hj e => by
  have e2 : xs.getD i 0 = xs.getD j 0 := by rw [h.val hi, h.val hj, e]
  rw [getD_lt 0 hi, getD_lt 0 hj] at e2
  exact (List.getElem_inj h.nd).1 e2

/-- the walk along a cycle -/
structure Ob (xs : List Int) (k : Nat) (D0 : Nat → Bool) (x : Nat) (D : Nat → Bool) (c : List Int) : Prop where
  x_eq : x = itr (fn xs) c.length k
  c_eq : ∀ j, j < c.length → c.getD j 0 = (itr (fn xs) j k : Int)
  dis : ∀ i j, i < j → j < c.length → itr (fn xs) i k ≠ itr (fn xs) j k
  mkd : ∀ y, D y = true ↔ D0 y = true ∨ ∃ j, j < c.length ∧ y = itr (fn xs) j k

theorem wk_ob {xs : List Int} (hp : Pm xs) {k : Nat} {D0 : Nat → Bool} : ∀ (f x : Nat) (D : Nat → Bool) (c : List Int), x < xs.length → freeN D xs.length ≤ f → Ob xs k D0 x D c →
    ∃ x' D' c', wk xs f x D c = (c', D') ∧ Ob xs k D0 x' D' c' ∧ D' x' = true
  | 0, x, D, c, hx, hf, H => by
    have hD : D x = true := by
      cases hD : D x
      · have := freeN_pos hD hx; omega
      · rfl
    exact ⟨x, D, c, rfl, H, hD⟩
  | f + 1, x, D, c, hx, hf, H => by
    cases hD : D x
    · have hm := freeN_mark hD xs.length hx
      simp only [wk, hD]
      refine wk_ob hp f _ _ _ (hp.lt x hx) (by omega) ⟨?_, fun j hj => ?_, fun i j hij hj => ?_, fun y => ?_⟩
      · show fn xs x = _
        rw [H.x_eq]; simp [itr]
      · by_cases e : j < c.length
        · have := H.c_eq j e
          simpa [List.getD, List.getElem?_append_left e] using this
        · obtain rfl : j = c.length := by simp at hj; omega
          rw [← H.x_eq]; simp [List.getD]
      · by_cases e : j < c.length
        · exact H.dis i j hij e
        · obtain rfl : j = c.length := by simp at hj; omega
          rw [← H.x_eq]
          intro e2
          have := (H.mkd x).2 (.inr ⟨i, hij, e2.symm⟩)
          rw [hD] at this; cases this
      · unfold mark
        split
        · rename_i e
          subst e
          refine ⟨fun _ => .inr ⟨c.length, by simp, H.x_eq⟩, fun _ => rfl⟩
        · rename_i e
          rw [H.mkd y]
          refine or_congr Iff.rfl ⟨fun ⟨j, h1, h2⟩ => ⟨j, by simp; omega, h2⟩, fun ⟨j, h1, h2⟩ => ⟨j, ?_, h2⟩⟩
          apply Classical.byContradiction
          intro hc
          obtain rfl : j = c.length := by simp at h1; omega
          exact e (by rw [h2, H.x_eq])
    · exact ⟨x, D, c, by simp [wk, hD], H, hD⟩

/-- marked points: with a point its forerunner, and each is on a cycle that was found -/
structure Mk (xs : List Int) (cs : List (List Int)) (D : Nat → Bool) : Prop where
  pre : ∀ y, y < xs.length → D (fn xs y) = true → D y = true
  on : ∀ y, y < xs.length → D y = true → ∃ c ∈ cs, itr (fn xs) c.length y = y

theorem cyc_closed {xs : List Int} (hp : Pm xs) {k : Nat} (hk : k < xs.length) {D0 D : Nat → Bool} {c : List Int} {x : Nat} (H : Ob xs k D0 x D c) (hD : D x = true) (h0 : D0 k = false) (hpre : ∀ y, y < xs.length → D0 (fn xs y) = true → D0 y = true) :
    0 < c.length ∧ itr (fn xs) c.length k = k := by
  have back : ∀ m, D0 (itr (fn xs) m k) = true → D0 k = true := by
    intro m
    induction m with
    | zero => exact fun h => h
    | succ m ih => exact fun h => ih (hpre _ (itr_lt hp.lt m k hk) h)
  have hx := H.x_eq
  rcases (H.mkd x).1 hD with h | ⟨j, hj, e⟩
  · rw [hx] at h
    have := back _ h
    rw [h0] at this; cases this
  · rw [hx] at e
    have hpos : 0 < c.length := by omega
    refine ⟨hpos, ?_⟩
    cases j with
    | zero => exact e
    | succ j =>
      obtain ⟨m, hm⟩ : ∃ m, c.length = m + 1 := ⟨c.length - 1, by omega⟩
      rw [hm] at e
      have e2 : itr (fn xs) m k = itr (fn xs) j k := hp.inj _ _ (itr_lt hp.lt m k hk) (itr_lt hp.lt j k hk) e
      exact absurd e2.symm (H.dis j m (by omega) (by omega))

theorem cyc_mk {xs : List Int} (hp : Pm xs) : ∀ k, k ≤ xs.length → Mk xs (cycAt xs k).1 (cycAt xs k).2 ∧ ∀ i, i < k → (cycAt xs k).2 i = true
  | 0, _ => ⟨⟨fun _ _ h => by simp [cycAt] at h, fun _ _ h => by simp [cycAt] at h⟩, fun i hi => by omega⟩
  | k + 1, hk => by
    obtain ⟨ih, ihd⟩ := cyc_mk hp k (by omega)
    obtain ⟨x, D, c, hw, H, hD⟩ := wk_ob hp (k := k) (D0 := (cycAt xs k).2) xs.length k (cycAt xs k).2 [] (by omega) (freeN_le _ _) ⟨rfl, fun j hj => by simp at hj, fun i j _ hj => by simp at hj, fun y => by simp⟩
    have keep : ∀ y, (cycAt xs k).2 y = true → D y = true := fun y hy => (H.mkd y).2 (.inl hy)
    by_cases h0 : (cycAt xs k).2 k = true
    · have hc : c = [] := by
        have : wk xs xs.length k (cycAt xs k).2 [] = ([], (cycAt xs k).2) := by
          cases hl : xs.length <;> simp [wk, h0]
        rw [this] at hw; cases hw; rfl
      have hcy := cycAt_succ_none hw hc
      have hDD : ∀ y, D y = true ↔ (cycAt xs k).2 y = true := fun y => by
        rw [H.mkd y]; subst hc; simp
      rw [hcy]
      refine ⟨⟨fun y hy h => (hDD y).2 (ih.pre y hy ((hDD _).1 h)), fun y hy h => ih.on y hy ((hDD y).1 h)⟩, fun i hi => ?_⟩
      by_cases e : i = k
      · subst e; exact keep _ h0
      · exact keep _ (ihd i (by omega))
    · have h0 : (cycAt xs k).2 k = false := by cases h : (cycAt xs k).2 k <;> simp_all
      obtain ⟨hpos, hcl⟩ := cyc_closed hp (by omega) H hD h0 ih.pre
      have hcy := cycAt_succ_some hw (by intro e; rw [e] at hpos; simp at hpos)
      rw [hcy]
      refine ⟨⟨fun y hy h => ?_, fun y hy h => ?_⟩, fun i hi => ?_⟩
      · rcases (H.mkd _).1 h with h1 | ⟨j, hj, e⟩
        · exact keep _ (ih.pre y hy h1)
        · cases j with
          | zero =>
            obtain ⟨m, hm⟩ : ∃ m, c.length = m + 1 := ⟨c.length - 1, by omega⟩
            rw [hm] at hcl
            have : y = itr (fn xs) m k := hp.inj _ _ hy (itr_lt hp.lt m k (by omega)) (by rw [e]; exact hcl.symm)
            exact (H.mkd y).2 (.inr ⟨m, by omega, this⟩)
          | succ j =>
            have : y = itr (fn xs) j k := hp.inj _ _ hy (itr_lt hp.lt j k (by omega)) e
            exact (H.mkd y).2 (.inr ⟨j, by omega, this⟩)
      · rcases (H.mkd y).1 h with h1 | ⟨j, hj, rfl⟩
        · obtain ⟨c', h2, h3⟩ := ih.on y hy h1
          exact ⟨c', by simp [h2], h3⟩
        · exact ⟨c, by simp, by rw [← itr_add, Nat.add_comm, itr_add, hcl]⟩
      · by_cases e : i = k
        · subst e; exact (H.mkd _).2 (.inr ⟨0, hpos, rfl⟩)
        · exact keep _ (ihd i (by omega))

theorem ordAt_mem {cs : List (List Int)} : ∀ k, k ≤ cs.length → ∀ j, j < k → (cs.getD j []).length ∣ ordAt cs k
  | k + 1, hk, j, hj => by
    simp only [ordAt]
    rw [ord_step_lcm]
    by_cases e : j = k
    · subst e; exact Nat.dvd_lcm_right _ _
    · exact Nat.dvd_trans (ordAt_mem k (by omega) j (by omega)) (Nat.dvd_lcm_left _ _)
/-- THE ORDER takes every point back. -/
theorem order_id {xs : List Int} (hp : Pm xs) {i : Nat} (hi : i < xs.length) : itr (fn xs) (orderOf xs) i = i := by
  obtain ⟨h1, h2⟩ := cyc_mk hp xs.length (Nat.le_refl _)
  obtain ⟨c, hc, e⟩ := h1.on i hi (h2 i hi)
  obtain ⟨j, hj, rfl⟩ := List.getElem_of_mem hc
  have := ordAt_mem (cs := cyclesOf xs) (cyclesOf xs).length (Nat.le_refl _) j hj
  rw [show (cyclesOf xs).getD j [] = (cyclesOf xs)[j] from getD_lt [] hj] at this
  obtain ⟨q, hq⟩ := this
  unfold orderOf
  rw [hq]
  exact itr_mul e q

/-- a list out of a map -/
def tabN (n : Nat) (F : Nat → Nat) : List Int := (List.range n).map fun i => (F i : Int)
@[simp] theorem tab_len (n : Nat) (F : Nat → Nat) : (tabN n F).length = n := by simp [tabN]
theorem tabN_get {n : Nat} {F : Nat → Nat} {i : Nat} (h : i < n) : (tabN n F).getD i 0 = (F i : Int) := by simp [tabN, List.getD, h]
theorem tab_ext {n : Nat} {F G : Nat → Nat} (h : ∀ i, i < n → F i = G i) : tabN n F = tabN n G := by
  unfold tabN
  exact List.map_congr_left (fun i hi => by rw [h i (by simpa using hi)])
theorem Pm.tabN {xs : List Int} (h : Pm xs) : xs = tabN xs.length (fn xs) := by
  apply List.ext_getElem
  · simp
  · intro i h1 h2
    have := h.val h1
    rw [getD_lt 0 h1] at this
    rw [this]; simp [Go.Proofs.Ytgjfpmjllpgadaa.tabN]
/-- the inverse map -/
def gn (xs : List Int) : Nat → Nat := itr (fn xs) (orderOf xs - 1)
theorem gn_lt {xs : List Int} (hp : Pm xs) : ∀ i, i < xs.length → gn xs i < xs.length := fun i hi => itr_lt hp.lt _ i hi
theorem fn_gn {xs : List Int} (hp : Pm xs) (ho : 1 ≤ orderOf xs) {i : Nat} (hi : i < xs.length) : fn xs (gn xs i) = i := by
  have := order_id hp hi
  obtain ⟨m, hm⟩ : ∃ m, orderOf xs = m + 1 := ⟨orderOf xs - 1, by omega⟩
  unfold gn
  rw [hm] at this ⊢
  exact this
theorem gn_fn {xs : List Int} (hp : Pm xs) (ho : 1 ≤ orderOf xs) {i : Nat} (hi : i < xs.length) : gn xs (fn xs i) = i := by
  have := order_id hp hi
  obtain ⟨m, hm⟩ : ∃ m, orderOf xs = m + 1 := ⟨orderOf xs - 1, by omega⟩
  unfold gn
  rw [hm] at this ⊢
  rw [itr_one] at this
  exact this
end Go.Proofs.Ytgjfpmjllpgadaa
