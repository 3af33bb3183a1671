/- Facts and contracts that the claim uses. No condition of its own. -/
import Derived.Calls
set_option linter.unusedVariables false
set_option linter.unusedSimpArgs false
namespace Go.Proofs.YtkmkcbkfakoomaaDoor
theorem getD_lt {α : Type} {xs : List α} {k : Nat} (d : α) (h : k < xs.length) : xs.getD k d = xs[k] := by
  simp [List.getD, List.getElem?_eq_getElem h]
end Go.Proofs.YtkmkcbkfakoomaaDoor

/- Facts and contracts that the claim uses. No condition of its own. -/
set_option linter.unusedVariables false
set_option linter.unusedSimpArgs false
namespace Go.Proofs.YtkmkcbkfakoomaaDoor
def mark (D : Nat → Bool) (x : Nat) : Nat → Bool := fun j => if j = x then true else D j
def wk (xs : List Int) : Nat → Nat → (Nat → Bool) → List Int → List Int × (Nat → Bool)
  | 0, _, D, c => (c, D)
  | f + 1, x, D, c => if D x then (c, D) else wk xs f (xs.getD x 0).toNat (mark D x) (c ++ [(x : Int)])
def freeN (D : Nat → Bool) : Nat → Nat
  | 0 => 0
  | n + 1 => freeN D n + if D n then 0 else 1
theorem freeN_le (D : Nat → Bool) : ∀ n, freeN D n ≤ n
  | 0 => Nat.le_refl _
  | n + 1 => by have := freeN_le D n; simp only [freeN]; split <;> omega
theorem freeN_mark_ge {D : Nat → Bool} {x : Nat} : ∀ n, n ≤ x → freeN (mark D x) n = freeN D n
  | 0, _ => rfl
  | n + 1, h => by
    have := freeN_mark_ge (D := D) (x := x) n (by omega)
    simp only [freeN, this]
    have e : mark D x n = D n := by unfold mark; rw [if_neg (by omega)]
    rw [e]
theorem freeN_mark {D : Nat → Bool} {x : Nat} (hD : D x = false) : ∀ n, x < n → freeN (mark D x) n + 1 = freeN D n
  | 0, h => absurd h (by omega)
  | n + 1, h => by
    by_cases e : x = n
    · subst e
      have := freeN_mark_ge (D := D) (x := x) x (Nat.le_refl _)
      simp [freeN, this, hD, mark]
    · have := freeN_mark hD n (by omega)
      have e' : mark D x n = D n := by unfold mark; rw [if_neg (by omega)]
      simp only [freeN, e']
      omega
theorem freeN_pos {D : Nat → Bool} {x n : Nat} (hD : D x = false) (hx : x < n) : 0 < freeN D n := by
  have := freeN_mark hD n hx; omega
def InRange (xs : List Int) : Prop := ∀ i, i < xs.length → 0 ≤ xs.getD i 0 ∧ xs.getD i 0 < xs.length
theorem wk_enough {xs : List Int} (hr : InRange xs) : ∀ (f f' x : Nat) (D : Nat → Bool) (c : List Int), x < xs.length → freeN D xs.length ≤ f → freeN D xs.length ≤ f' → wk xs f x D c = wk xs f' x D c
  | 0, f', x, D, c, hx, h, h' => by
    have hD : D x = true := by
      cases hD : D x
      · have := freeN_pos hD hx; omega
      · rfl
    cases f' <;> simp [wk, hD]
  | f + 1, f', x, D, c, hx, h, h' => by
    cases hD : D x
    · have hp := freeN_pos hD hx
      have hm := freeN_mark hD xs.length hx
      obtain ⟨f'', rfl⟩ : ∃ f'', f' = f'' + 1 := ⟨f' - 1, by omega⟩
      simp only [wk, hD]
      have h2 := hr x hx
      exact wk_enough hr f f'' _ _ _ (by omega) (by omega) (by omega)
    · cases f' <;> simp [wk, hD]
def cycAt (xs : List Int) : Nat → List (List Int) × (Nat → Bool)
  | 0 => ([], fun _ => false)
  | k + 1 =>
    let r := wk xs xs.length k (cycAt xs k).2 []
    (if r.1 = [] then (cycAt xs k).1 else (cycAt xs k).1 ++ [r.1], r.2)
def cyclesOf (xs : List Int) : List (List Int) := (cycAt xs xs.length).1
structure Wk (xs : List Int) (x : Nat) (D : Nat → Bool) (c : List Int) (R : List Int × (Nat → Bool)) : Prop where
  hx : x < xs.length
  all : ∀ i, i < c.length → 0 ≤ c.getD i 0 ∧ c.getD i 0 < xs.length
  len : c.length + freeN D xs.length ≤ xs.length
  fin : ∀ f, freeN D xs.length ≤ f → wk xs f x D c = R
theorem Wk.start {xs : List Int} (hr : InRange xs) {k : Nat} (hk : k < xs.length) (D : Nat → Bool) : Wk xs k D [] (wk xs xs.length k D []) :=
  ⟨hk, by simp, by simpa using freeN_le D _, fun f hf => wk_enough hr f _ k D [] hk hf (freeN_le D _)⟩
theorem Wk.done {xs : List Int} {x : Nat} {D : Nat → Bool} {c : List Int} {R} (h : Wk xs x D c R) (hD : D x = true) : R = (c, D) := by
  rw [← h.fin (freeN D xs.length + 1) (by omega)]
  simp [wk, hD]
theorem Wk.step {xs : List Int} (hr : InRange xs) {x : Nat} {D : Nat → Bool} {c : List Int} {R} (h : Wk xs x D c R) (hD : D x = false) :
    Wk xs (xs.getD x 0).toNat (mark D x) (c ++ [(x : Int)]) R ∧ freeN (mark D x) xs.length < freeN D xs.length := by
  have hx := h.hx
  have hm := freeN_mark hD xs.length hx
  have h2 := hr x hx
  refine ⟨⟨by omega, ?_, ?_, ?_⟩, by omega⟩
  · intro i hi
    by_cases e : i < c.length
    · have := h.all i e
      simpa [List.getD, List.getElem?_append_left e] using this
    · obtain rfl : i = c.length := by simp at hi; omega
      simp [List.getD]; omega
  · have := h.len
    simp; omega
  · intro f hf
    have := h.fin (f + 1) (by omega)
    simpa [wk, hD] using this
theorem cycAt_succ_some {xs : List Int} {k : Nat} {c : List Int} {D : Nat → Bool} (h : wk xs xs.length k (cycAt xs k).2 [] = (c, D)) (hc : c ≠ []) : cycAt xs (k + 1) = ((cycAt xs k).1 ++ [c], D) := by
  simp only [cycAt, h]; rw [if_neg hc]
theorem cycAt_succ_none {xs : List Int} {k : Nat} {c : List Int} {D : Nat → Bool} (h : wk xs xs.length k (cycAt xs k).2 [] = (c, D)) (hc : c = []) : cycAt xs (k + 1) = ((cycAt xs k).1, D) := by
  simp only [cycAt, h]; rw [if_pos hc]
theorem wk_len {xs : List Int} (hr : InRange xs) : ∀ (f x : Nat) (D : Nat → Bool) (c : List Int), x < xs.length → c.length + freeN D xs.length ≤ xs.length → (wk xs f x D c).1.length ≤ xs.length
  | 0, x, D, c, hx, h => by simp only [wk]; omega
  | f + 1, x, D, c, hx, h => by
    cases hD : D x
    · have hm := freeN_mark hD xs.length hx
      have h2 := hr x hx
      simp only [wk, hD]
      exact wk_len hr f _ _ _ (by omega) (by simp; omega)
    · simp [wk, hD]; omega
theorem cycAt_lens {xs : List Int} (hr : InRange xs) : ∀ k, k ≤ xs.length → ∀ c ∈ (cycAt xs k).1, 1 ≤ c.length ∧ c.length ≤ xs.length
  | 0, _ => by simp [cycAt]
  | k + 1, hk => by
    have ih := cycAt_lens hr k (by omega)
    have hl := wk_len hr xs.length k (cycAt xs k).2 [] (by omega) (by simpa using freeN_le _ _)
    intro c hc
    simp only [cycAt] at hc
    split at hc
    · exact ih c hc
    · rename_i hne
      rcases List.mem_append.1 hc with h | h
      · exact ih c h
      · simp at h
        subst h
        exact ⟨List.length_pos_iff.2 hne, hl⟩
theorem cyclesOf_lens {xs : List Int} (hr : InRange xs) : ∀ c ∈ cyclesOf xs, 1 ≤ c.length ∧ c.length ≤ xs.length := cycAt_lens hr _ (Nat.le_refl _)
def ordAt (cs : List (List Int)) : Nat → Nat
  | 0 => 1
  | k + 1 => ordAt cs k / Nat.gcd (ordAt cs k) (cs.getD k []).length * (cs.getD k []).length
def orderOf (xs : List Int) : Nat := ordAt (cyclesOf xs) (cyclesOf xs).length
end Go.Proofs.YtkmkcbkfakoomaaDoor
