/- Burau matrices over the ring of Laurent polynomials: products, bounds, determinants. Plain facts: nothing of the program is here. -/
import Derived.Test.YtgjfpmjllpgadaaGColorCountsAD
set_option linter.unusedVariables false
set_option linter.unusedSimpArgs false
namespace Go.Proofs.Ytgjfpmjllpgadaa

/-! ### letters -/
noncomputable def e00 (x : Int) : LP := if 0 < x then LP.mono 1 0 + LP.mono (-1) 1 else 0
noncomputable def e01 (x : Int) : LP := if 0 < x then LP.mono 1 1 else 1
noncomputable def e10 (x : Int) : LP := if 0 < x then 1 else LP.mono 1 (-1)
noncomputable def e11 (x : Int) : LP := if 0 < x then 0 else LP.mono 1 0 + LP.mono (-1) (-1)
noncomputable def unitM : Nat → Nat → LP := fun r c => if r = c then 1 else 0
/-- a matrix times the matrix of a letter -/
noncomputable def stepM (A : Nat → Nat → LP) (x : Int) : Nat → Nat → LP := fun r c =>
  if c + 1 = x.natAbs then A r (x.natAbs - 1) * e00 x + A r x.natAbs * e10 x else if c = x.natAbs then A r (x.natAbs - 1) * e01 x + A r x.natAbs * e11 x else A r c
noncomputable def burM (w : List Int) : Nat → Nat → LP := w.foldl stepM unitM
noncomputable def mmul (n : Nat) (A B : Nat → Nat → LP) : Nat → Nat → LP := fun r c => smP (List.range n) (fun j => A r j * B j c)
theorem lapP_congr {M M' : Nat → Nat → LP} : ∀ (rs cs : List Nat), (∀ r c, r ∈ rs → c ∈ cs → M r c = M' r c) → lapP M rs cs = lapP M' rs cs
  | [], _, _ => rfl
  | r :: rs, cs, h => by
    have key : ∀ (b : List Nat) (j : Nat) (a : List Nat), (∀ x ∈ a, x ∈ cs) → (∀ x ∈ b, x ∈ cs) → altsP (fun c rest => M r c * lapP M rs rest) j a b = altsP (fun c rest => M' r c * lapP M' rs rest) j a b := by
      intro b
      induction b with
      | nil => intro j a _ _; rfl
      | cons x b ih =>
        intro j a ha hb
        simp only [altsP]
        rw [h r x (by simp) (hb x (by simp)), lapP_congr rs (a ++ b) (fun r' c hr hc => h r' c (by simp [hr]) (by
          rcases List.mem_append.1 hc with hc | hc
          · exact ha c hc
          · exact hb c (by simp [hc])))]
        rw [ih (j + 1) (a ++ [x]) (fun y hy => by
          rcases List.mem_append.1 hy with hy | hy
          · exact ha y hy
          · rw [List.mem_singleton] at hy; rw [hy]; exact hb x (by simp)) (fun y hy => hb y (by simp [hy]))]
    exact key cs 0 [] (fun x hx => by cases hx) (fun x hx => hx)
/-- the determinant is linear in a column -/
theorem lapP_lin {M M' : Nat → Nat → LP} {c a b : Nat} {u v : LP} : ∀ (rs pre post : List Nat), rs.length = pre.length + post.length + 1 → (∀ r x, x ∈ pre ++ post → M' r x = M r x) → (∀ r, M' r c = M r a * u + M r b * v) →
    lapP M' rs (pre ++ c :: post) = lapP M rs (pre ++ a :: post) * u + lapP M rs (pre ++ b :: post) * v
  | [], pre, post, hl, _, _ => by simp at hl
  | r :: rs, pre, post, hl, hM, hc => by
    -- after the column
    have after : ∀ (q : List Nat) (j : Nat) (p1 p2 : List Nat), p1.length + p2.length + q.length = pre.length + post.length → (∀ x ∈ p1 ++ p2 ++ q, x ∈ pre ++ post) →
        altsP (fun c rest => M' r c * lapP M' rs rest) j (p1 ++ c :: p2) q = altsP (fun c rest => M r c * lapP M rs rest) j (p1 ++ a :: p2) q * u + altsP (fun c rest => M r c * lapP M rs rest) j (p1 ++ b :: p2) q * v := by
      intro q
      induction q with
      | nil => intro j p1 p2 _ _; simp only [altsP, LP.zero_mul, LP.add_zero]
      | cons x q ih =>
        intro j p1 p2 h1 h2
        have e1 := lapP_lin (M := M) (M' := M') (c := c) (a := a) (b := b) (u := u) (v := v) rs p1 (p2 ++ q) (by simp at hl h1 ⊢; omega) (fun r y hy => hM r y (h2 y (by
          simp only [List.mem_append, List.mem_cons] at hy ⊢
          rcases hy with hy | hy | hy
          · exact .inl (.inl hy)
          · exact .inl (.inr hy)
          · exact .inr (.inr hy)))) hc
        have e2 := ih (j + 1) p1 (p2 ++ [x]) (by simp at h1 ⊢; omega) (fun y hy => h2 y (by
          simp only [List.mem_append, List.mem_cons, List.not_mem_nil, or_false] at hy ⊢
          rcases hy with (hy | hy | hy) | hy
          · exact .inl (.inl hy)
          · exact .inl (.inr hy)
          · exact .inr (.inl hy)
          · exact .inr (.inr hy)))
        simp only [altsP, List.append_assoc, List.cons_append]
        rw [e1, e2, hM r x (h2 x (by simp)), LP.mul_add, LP.smul_add, LP.add_mul, LP.add_mul, ← LP.mul_assoc, ← LP.mul_assoc, LP.smul_mul, LP.smul_mul]
        ac_rfl
    have before : ∀ (q : List Nat) (j : Nat) (p : List Nat), p.length + q.length = pre.length → (∀ x ∈ p ++ q, x ∈ pre ++ post) →
        altsP (fun c rest => M' r c * lapP M' rs rest) j p (q ++ c :: post) = altsP (fun c rest => M r c * lapP M rs rest) j p (q ++ a :: post) * u + altsP (fun c rest => M r c * lapP M rs rest) j p (q ++ b :: post) * v := by
      intro q
      induction q with
      | nil =>
        intro j p h1 h2
        have hp : ∀ x ∈ p ++ post, x ∈ pre ++ post := fun x hx => by
          rcases List.mem_append.1 hx with hx | hx
          · exact h2 x (by simp [hx])
          · simp [hx]
        have e2 := after post (j + 1) p [] (by simp at h1 ⊢; omega) (fun x hx => hp x (by simpa using hx))
        have e3 := lapP_congr (M := M') (M' := M) rs (p ++ post) (fun r' y _ hy => hM r' y (hp y hy))
        simp only [List.nil_append, altsP]
        rw [e2, e3, hc r, LP.add_mul, LP.smul_add, LP.add_mul, LP.add_mul, LP.smul_mul, LP.smul_mul]
        rw [show M r a * u * lapP M rs (p ++ post) = M r a * lapP M rs (p ++ post) * u by ac_rfl, show M r b * v * lapP M rs (p ++ post) = M r b * lapP M rs (p ++ post) * v by ac_rfl]
        ac_rfl
      | cons x q ih =>
        intro j p h1 h2
        have e1 := lapP_lin (M := M) (M' := M') (c := c) (a := a) (b := b) (u := u) (v := v) rs (p ++ q) post (by simp at hl h1 ⊢; omega) (fun r y hy => hM r y (by
          simp only [List.mem_append] at hy
          rcases hy with (hy | hy) | hy
          · exact h2 y (by simp [hy])
          · exact h2 y (by simp [hy])
          · simp [hy])) hc
        have e2 := ih (j + 1) (p ++ [x]) (by simp at h1 ⊢; omega) (fun y hy => h2 y (by
          simp only [List.mem_append, List.mem_cons, List.not_mem_nil, or_false] at hy ⊢
          rcases hy with (hy | hy) | hy
          · exact .inl hy
          · exact .inr (.inl hy)
          · exact .inr (.inr hy)))
        simp only [altsP, List.cons_append]
        simp only [List.append_assoc] at e1
        rw [e1, e2, hM r x (h2 x (by simp)), LP.mul_add, LP.smul_add, LP.add_mul, LP.add_mul, ← LP.mul_assoc, ← LP.mul_assoc, LP.smul_mul, LP.smul_mul]
        ac_rfl
    exact before pre 0 [] (by simp) (fun x hx => by simp at hx; simp [hx])
end Go.Proofs.Ytgjfpmjllpgadaa
