/- Integer matrices that are alike up to additions of rows and columns. Plain facts: nothing of the program is here. -/
import Derived.Test.YteecmiagfjjefaaGMatrixSolutionsAI
set_option linter.unusedVariables false
set_option linter.unusedSimpArgs false
namespace Go.Proofs.Yteecmiagfjjefaa

/-- N comes from M by additions of rows s, .. , n - 1 and of columns s, .. , k - 1 -/
inductive Eqv (s n k : Nat) (M : Nat → Nat → Int) : (Nat → Nat → Int) → Prop where
  | refl : Eqv s n k M M
  | row {N : Nat → Nat → Int} (h : Eqv s n k M N) {i j : Nat} (hi : s ≤ i ∧ i < n) (hj : s ≤ j ∧ j < n) (hij : i ≠ j) (c : Int) : Eqv s n k M (rowAdd N i j c)
  | col {N : Nat → Nat → Int} (h : Eqv s n k M N) {a b : Nat} (ha : s ≤ a ∧ a < k) (hb : s ≤ b ∧ b < k) (hab : a ≠ b) (c : Int) : Eqv s n k M (colAdd N a b c)
theorem Eqv.trans {s n k : Nat} {M N L : Nat → Nat → Int} (h1 : Eqv s n k M N) (h2 : Eqv s n k N L) : Eqv s n k M L := by
  induction h2 with
  | refl => exact h1
  | row _ hi hj hij c ih => exact ih.row hi hj hij c
  | col _ ha hb hab c ih => exact ih.col ha hb hab c
theorem Eqv.low {s t n k : Nat} {M N : Nat → Nat → Int} (h : Eqv s n k M N) (ht : t ≤ s) : Eqv t n k M N := by
  induction h with
  | refl => exact .refl
  | row _ hi hj hij c ih => exact ih.row ⟨by omega, hi.2⟩ ⟨by omega, hj.2⟩ hij c
  | col _ ha hb hab c ih => exact ih.col ⟨by omega, ha.2⟩ ⟨by omega, hb.2⟩ hab c
theorem row_back (M : Nat → Nat → Int) {i j : Nat} (hij : i ≠ j) (c : Int) : rowAdd (rowAdd M i j c) i j (-c) = M := by
  funext r x
  unfold rowAdd
  by_cases h : r = i
  · subst h
    rw [if_pos rfl, if_pos rfl, if_neg (fun e => hij e.symm), Int.neg_mul]; omega
  · rw [if_neg h, if_neg h]
theorem col_back (M : Nat → Nat → Int) {a b : Nat} (hab : a ≠ b) (c : Int) : colAdd (colAdd M a b c) a b (-c) = M := by
  funext r x
  unfold colAdd
  by_cases h : x = a
  · subst h
    rw [if_pos rfl, if_pos rfl, if_neg (fun e => hab e.symm), Int.neg_mul]; omega
  · rw [if_neg h, if_neg h]
/-- what divides all minors is the same -/
theorem Eqv.dv {s n k : Nat} {M N : Nat → Nat → Int} (h : Eqv s n k M N) (q g : Nat) : DvM M n k q g ↔ DvM N n k q g := by
  induction h with
  | refl => exact Iff.rfl
  | @row N _ i j hi hj hij c ih =>
    refine ih.trans ⟨fun h => h.row hj.2 c, fun h => ?_⟩
    have := h.row hj.2 (-c) (i := i)
    rwa [row_back N hij c] at this
  | @col N _ a b ha hb hab c ih =>
    refine ih.trans ⟨fun h => h.col hb.2 c, fun h => ?_⟩
    have := h.col hb.2 (-c) (a := a)
    rwa [col_back N hab c] at this
/-- a number that divides the block divides it still -/
theorem Eqv.blk {s n k : Nat} {M N : Nat → Nat → Int} (h : Eqv s n k M N) {d : Int} (hd : ∀ r c, s ≤ r → r < n → s ≤ c → c < k → d ∣ M r c) : ∀ r c, s ≤ r → r < n → s ≤ c → c < k → d ∣ N r c := by
  induction h with
  | refl => exact hd
  | @row N _ i j hi hj hij c ih =>
    intro r x h1 h2 h3 h4
    unfold rowAdd
    split
    · rename_i e
      subst e
      exact Int.dvd_add (ih _ _ h1 h2 h3 h4) (Int.dvd_trans (ih _ _ hj.1 hj.2 h3 h4) (Int.dvd_mul_left _ _))
    · exact ih _ _ h1 h2 h3 h4
  | @col N _ a b ha hb hab c ih =>
    intro r x h1 h2 h3 h4
    unfold colAdd
    split
    · rename_i e
      subst e
      exact Int.dvd_add (ih _ _ h1 h2 h3 h4) (Int.dvd_trans (ih _ _ h1 h2 hb.1 hb.2) (Int.dvd_mul_left _ _))
    · exact ih _ _ h1 h2 h3 h4
/-- what lies outside the block, if it is zero beside it, stays -/
theorem Eqv.out {s n k : Nat} {M N : Nat → Nat → Int} (h : Eqv s n k M N) (hz : ∀ r c, r < n → c < k → (r < s ∧ s ≤ c ∨ s ≤ r ∧ c < s) → M r c = 0) : (∀ r c, r < n → c < k → (r < s ∧ s ≤ c ∨ s ≤ r ∧ c < s) → N r c = 0) ∧ ∀ r c, r < s → c < s → N r c = M r c := by
  induction h with
  | refl => exact ⟨hz, fun _ _ _ _ => rfl⟩
  | @row N _ i j hi hj hij c ih =>
    refine ⟨fun r x h1 h2 h3 => ?_, fun r x h1 h2 => ?_⟩
    · unfold rowAdd
      split
      · rename_i e
        subst e
        rw [ih.1 _ _ h1 h2 h3, ih.1 j x hj.2 h2 (by omega), Int.mul_zero]; rfl
      · exact ih.1 _ _ h1 h2 h3
    · unfold rowAdd
      rw [if_neg (by omega)]; exact ih.2 _ _ h1 h2
  | @col N _ a b ha hb hab c ih =>
    refine ⟨fun r x h1 h2 h3 => ?_, fun r x h1 h2 => ?_⟩
    · unfold colAdd
      split
      · rename_i e
        subst e
        rw [ih.1 _ _ h1 h2 h3, ih.1 r b h1 hb.2 (by omega), Int.mul_zero]; rfl
      · exact ih.1 _ _ h1 h2 h3
    · unfold colAdd
      rw [if_neg (by omega)]; exact ih.2 _ _ h1 h2
end Go.Proofs.Yteecmiagfjjefaa
