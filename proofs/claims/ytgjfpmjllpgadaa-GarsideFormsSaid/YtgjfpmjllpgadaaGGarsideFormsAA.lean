/-
  Plain facts on lists and numbers that the walks use; nothing of the program is here.
-/
import Derived.Calls
set_option linter.unusedVariables false
set_option linter.unusedSimpArgs false
namespace Go.Proofs.Ytgjfpmjllpgadaa

/-- The first value of f below n that is not 0, else 0. -/
def firstNZ (f : Nat → Int) : Nat → Int
  | 0 => 0
  | n + 1 => if firstNZ f n = 0 then f n else firstNZ f n

theorem firstNZ_zero {f : Nat → Int} {n : Nat} (h : ∀ j, j < n → f j = 0) : firstNZ f n = 0 := by
  induction n with
  | zero => rfl
  | succ n ih => simp [firstNZ, ih (fun j hj => h j (by omega)), h n (by omega)]

theorem firstNZ_at {f : Nat → Int} {n k : Nat} (hk : k < n) (h : ∀ j, j < k → f j = 0) (hf : f k ≠ 0) : firstNZ f n = f k := by
  induction n with
  | zero => omega
  | succ n ih =>
    by_cases e : k = n
    · subst e; simp [firstNZ, firstNZ_zero h]
    · have := ih (by omega)
      simp [firstNZ, this, hf]

theorem firstNZ_zero_iff {f : Nat → Int} {n : Nat} : firstNZ f n = 0 ↔ ∀ j, j < n → f j = 0 := by
  refine ⟨fun h => ?_, firstNZ_zero⟩
  induction n with
  | zero => intro j hj; omega
  | succ n ih =>
    simp only [firstNZ] at h
    split at h
    · rename_i h0
      intro j hj
      by_cases e : j = n
      · subst e; exact h
      · exact ih h0 j (by omega)
    · contradiction


theorem getD_lt {α : Type} {xs : List α} {k : Nat} (d : α) (h : k < xs.length) : xs.getD k d = xs[k] := by
  simp [List.getD, List.getElem?_eq_getElem h]

end Go.Proofs.Ytgjfpmjllpgadaa

/-
  Reducing words: by a stack from the left, or from the right. Plain facts: nothing of the program is here.
-/
set_option linter.unusedVariables false
set_option linter.unusedSimpArgs false
namespace Go.Proofs.Ytgjfpmjllpgadaa

/-- from the left: the stack grows at its end -/
def push (st : List Int) (x : Int) : List Int := if st.getLast? = some (-x) then st.dropLast else st ++ [x]
/-- from the right -/
def consR (x : Int) (s : List Int) : List Int := if s.head? = some (-x) then s.tail else x :: s
def red (w : List Int) : List Int := w.foldl push []
def short (w : List Int) : List Int := w.foldr consR []
/-- no two neighbours cancel -/
def Rd : List Int → Prop
  | [] => True
  | [_] => True
  | x :: y :: l => y ≠ -x ∧ Rd (y :: l)
theorem Rd.tail {x : Int} {l : List Int} (h : Rd (x :: l)) : Rd l := by
  cases l with
  | nil => trivial
  | cons y l => exact h.2
theorem rd_consR {x : Int} {s : List Int} (h : Rd s) : Rd (consR x s) := by
  unfold consR
  cases s with
  | nil => simp [Rd]
  | cons y s =>
    by_cases e : y = -x
    · rw [if_pos (by simp [e])]; exact h.tail
    · rw [if_neg (by simpa using e)]; exact ⟨e, h⟩
theorem rd_short : ∀ w, Rd (short w)
  | [] => trivial
  | x :: w => rd_consR (rd_short w)
/-- the stack read backwards -/
def RS (st : List Int) : Prop := Rd st.reverse
theorem push_rev (st : List Int) (x : Int) : (push st x).reverse = if st.reverse.head? = some (-x) then st.reverse.tail else x :: st.reverse := by
  unfold push
  rw [List.head?_reverse]
  split
  · rw [List.tail_reverse]
  · simp
theorem Rd.neg {x y : Int} {l : List Int} (h : Rd (x :: y :: l)) : x ≠ -y := by have := h.1; omega
theorem rs_push {st : List Int} (h : RS st) (x : Int) : RS (push st x) := by
  unfold RS at *
  rw [push_rev]
  exact rd_consR (x := x) h
theorem push_push {st : List Int} (h : RS st) (x : Int) : push (push st x) (-x) = st := by
  have e : (push (push st x) (-x)).reverse = st.reverse := by
    rw [push_rev, push_rev]
    unfold RS at h
    generalize st.reverse = r at *
    by_cases c : r.head? = some (-x)
    · rw [if_pos c]
      cases r with
      | nil => simp at c
      | cons y r =>
        simp only [List.head?_cons, Option.some.injEq] at c
        subst c
        simp only [List.tail_cons]
        cases r with
        | nil => simp
        | cons z r =>
          have := h.1
          exact if_neg (by simp only [List.tail_cons, List.head?_cons, Option.some.injEq]; omega)
    · rw [if_neg c, if_pos (by simp)]; rfl
  have := congrArg List.reverse e
  simpa using this
theorem foldl_consR {st : List Int} (h : RS st) (x : Int) (s : List Int) : (consR x s).foldl push st = (x :: s).foldl push st := by
  unfold consR
  split
  · rename_i c
    cases s with
    | nil => simp at c
    | cons y s =>
      simp only [List.head?_cons, Option.some.injEq] at c
      subst c
      simp only [List.tail_cons, List.foldl_cons]
      rw [push_push h]
  · rfl
theorem foldl_short : ∀ (w : List Int) {st : List Int}, RS st → w.foldl push st = (short w).foldl push st
  | [], _, _ => rfl
  | x :: w, st, h => by
    show (x :: w).foldl push st = (consR x (short w)).foldl push st
    rw [foldl_consR h]
    simp only [List.foldl_cons]
    exact foldl_short w (rs_push h x)
theorem foldl_rd : ∀ (r st : List Int), Rd (st.reverse.headD 0 :: r) ∨ st = [] ∧ Rd r → r.foldl push st = st ++ r
  | [], st, _ => by simp
  | x :: r, st, h => by
    have hp : push st x = st ++ [x] := by
      unfold push
      rw [if_neg]
      intro c
      rcases h with h | ⟨rfl, _⟩
      · rw [← List.head?_reverse] at c
        cases hr : st.reverse with
        | nil => rw [hr] at c; simp at c
        | cons y l =>
          rw [hr] at c h
          simp only [List.head?_cons, Option.some.injEq] at c
          have := h.1
          simp only [List.headD_cons] at this
          omega
      · simp at c
    simp only [List.foldl_cons]
    rw [hp, foldl_rd r (st ++ [x]) (.inl (by
      simp only [List.reverse_append, List.reverse_cons, List.reverse_nil, List.nil_append, List.singleton_append, List.headD_cons]
      rcases h with h | ⟨_, h⟩
      · exact h.tail
      · exact h))]
    simp
/-- BOTH WAYS LEAD TO THE SAME WORD. -/
theorem red_short (w : List Int) : red w = short w := by
  unfold red
  rw [foldl_short w (st := []) trivial, foldl_rd (short w) [] (.inr ⟨rfl, rd_short w⟩)]
  rfl
theorem short_len : ∀ w : List Int, (short w).length ≤ w.length
  | [] => Nat.le_refl _
  | x :: w => by
    have := short_len w
    show (consR x (short w)).length ≤ _
    unfold consR
    split
    · simp; omega
    · simp; omega
theorem short_mem : ∀ (w : List Int) (y : Int), y ∈ short w → y ∈ w
  | x :: w, y, h => by
    have h2 : y ∈ consR x (short w) := h
    unfold consR at h2
    split at h2
    · exact List.mem_cons_of_mem _ (short_mem w y (List.mem_of_mem_tail h2))
    · rcases List.mem_cons.1 h2 with rfl | h3
      · simp
      · exact List.mem_cons_of_mem _ (short_mem w y h3)
def invW (zs : List Int) : List Int := (zs.map fun x => -x).reverse
theorem invW_push (st : List Int) (x : Int) : invW (push st x) = consR (-x) (invW st) := by
  unfold push consR invW
  rw [List.head?_reverse, List.getLast?_map]
  by_cases c : st.getLast? = some (-x)
  · rw [if_pos c, if_pos (by rw [c]; rfl)]
    rw [List.tail_reverse, List.map_dropLast]
  · rw [if_neg c, if_neg]
    · simp
    · intro c2
      apply c
      cases h : st.getLast? with
      | none => rw [h] at c2; simp at c2
      | some y => rw [h] at c2; simp at c2; rw [show y = -x by omega]
theorem short_inv (w : List Int) : short (invW w) = invW (red w) := by
  have key : ∀ (w st : List Int), (invW w).foldr consR (invW st) = invW (w.foldl push st) := by
    intro w
    induction w with
    | nil => intro st; rfl
    | cons x w ih =>
      intro st
      simp only [List.foldl_cons]
      rw [← ih (push st x), invW_push]
      simp [invW, List.foldr_append]
  exact key w []
theorem red_inv (w : List Int) : red (invW w) = invW (red w) := by rw [red_short, short_inv]
theorem red_red (w : List Int) : red (red w) = red w := by
  have h := foldl_rd (short w) [] (.inr ⟨rfl, rd_short w⟩)
  rw [red_short w]
  exact h
end Go.Proofs.Ytgjfpmjllpgadaa
