/- The determinant by rows (Laplace) and over all permutations (Leibniz). Plain facts: nothing of the program is here. -/
import Derived.Test.YteecmiagfjjefaaGMatrixSolutionsAE
import Derived.Test.YteecmiagfjjefaaGMatrixSolutionsAB
set_option linter.unusedVariables false
set_option linter.unusedSimpArgs false
namespace Go.Proofs.Yteecmiagfjjefaa

/-! ### sums -/
def sm {α : Type} : List α → (α → Int) → Int
  | [], _ => 0
  | x :: l, g => g x + sm l g
theorem sm_append {α : Type} (g : α → Int) : ∀ a b : List α, sm (a ++ b) g = sm a g + sm b g
  | [], b => by simp [sm]
  | x :: a, b => by simp only [List.cons_append, sm, sm_append g a b]; omega
theorem sm_congr {α : Type} {g h : α → Int} : ∀ {l : List α}, (∀ x ∈ l, g x = h x) → sm l g = sm l h
  | [], _ => rfl
  | x :: l, e => by simp only [sm]; rw [e x (by simp), sm_congr (fun y hy => e y (by simp [hy]))]
theorem sm_mul {α : Type} (c : Int) (g : α → Int) : ∀ l : List α, sm l (fun x => c * g x) = c * sm l g
  | [] => by simp [sm]
  | x :: l => by simp only [sm, sm_mul c g l, Int.mul_add]
/-! ### what is left -/
def rem (n : Nat) (p : List Nat) : List Nat := (List.range n).filter fun i => !p.contains i
def Asc (l : List Nat) : Prop := l.Pairwise (· < ·)
theorem asc_range (n : Nat) : Asc (List.range n) := List.pairwise_lt_range
theorem asc_split {a b : List Nat} {x : Nat} (h : Asc (a ++ x :: b)) : (a ++ x :: b).filter (fun y => y != x) = a ++ b ∧ ((a ++ x :: b).filter fun y => decide (y < x)) = a := by
  have h1 := List.pairwise_append.1 h
  have h2 := List.pairwise_cons.1 h1.2.1
  have ha : ∀ y ∈ a, y < x := fun y hy => h1.2.2 y hy x (by simp)
  have hb : ∀ y ∈ b, x < y := h2.1
  constructor
  · rw [List.filter_append, List.filter_cons_of_neg (by simp)]
    rw [List.filter_eq_self.2 (fun y hy => by have := ha y hy; simp; omega), List.filter_eq_self.2 (fun y hy => by have := hb y hy; simp; omega)]
  · rw [List.filter_append, List.filter_cons_of_neg (by simp)]
    rw [List.filter_eq_self.2 (fun y hy => by have := ha y hy; simp; omega), List.filter_eq_nil_iff.2 (fun y hy => by have := hb y hy; simp; omega)]
    simp

/-! ### by rows -/
/-- alternating sum over a list, the list without each of its elements in turn -/
def alts (F : Nat → List Nat → Int) : Nat → List Nat → List Nat → Int
  | _, _, [] => 0
  | j, a, x :: b => sgn j * F x (a ++ b) + alts F (j + 1) (a ++ [x]) b
def lap (M : Nat → Nat → Int) : List Nat → List Nat → Int
  | [], _ => 1
  | r :: rs, cs => alts (fun c rest => M r c * lap M rs rest) 0 [] cs
/-! ### over all permutations -/
/-- how the prefix p may go on, k numbers more, in the order of the numbers -/
def sfx (n : Nat) : Nat → List Nat → List (List Nat)
  | 0, _ => [[]]
  | k + 1, p => (rem n p).flatMap fun i => (sfx n k (p ++ [i])).map (i :: ·)
def sgp (n : Nat) (p : List Nat) (i : Nat) : Int := sgn ((rem n p).filter fun x => decide (x < i)).length
def trm (M : Nat → Nat → Int) (n : Nat) : List Nat → List Nat → List Nat → Int
  | r :: rs, p, i :: q => sgp n p i * (M r i * trm M n rs (p ++ [i]) q)
  | _, _, _ => 1
def ltc (x : Nat) (l : List Nat) : Nat := (l.filter fun y => decide (y < x)).length
def invs : List Nat → Nat
  | [] => 0
  | x :: l => ltc x l + invs l
def prd (M : Nat → Nat → Int) : List Nat → List Nat → Int
  | r :: rs, i :: q => M r i * prd M rs q
  | _, _ => 1
/-! ### the sign, counted the other way round -/
def gtc (x : Nat) (l : List Nat) : Nat := (l.filter fun y => decide (x < y)).length
end Go.Proofs.Yteecmiagfjjefaa

/- Determinants of matrices of Laurent polynomials: by rows (Laplace) and over all permutations (Leibniz). Plain facts: nothing of the program is here. -/
set_option linter.unusedVariables false
set_option linter.unusedSimpArgs false
namespace Go.Proofs.Yteecmiagfjjefaa

/-! ### sums -/
def smP {α : Type} : List α → (α → LP) → LP
  | [], _ => 0
  | x :: l, g => g x + smP l g
/-! ### by rows -/
def altsP (F : Nat → List Nat → LP) : Nat → List Nat → List Nat → LP
  | _, _, [] => 0
  | j, a, x :: b => LP.smul (sgn j) (F x (a ++ b)) + altsP F (j + 1) (a ++ [x]) b
noncomputable def lapP (M : Nat → Nat → LP) : List Nat → List Nat → LP
  | [], _ => 1
  | r :: rs, cs => altsP (fun c rest => M r c * lapP M rs rest) 0 [] cs
noncomputable def trmP (M : Nat → Nat → LP) (n : Nat) : List Nat → List Nat → List Nat → LP
  | r :: rs, p, i :: q => LP.smul (sgp n p i) (M r i * trmP M n rs (p ++ [i]) q)
  | _, _, _ => 1
noncomputable def prdP (M : Nat → Nat → LP) : List Nat → List Nat → LP
  | r :: rs, i :: q => M r i * prdP M rs q
  | _, _ => 1
/-- the product that is made, from the left -/
noncomputable def pprP (M : Nat → Nat → LP) (q : List Nat) (s : LP) : Nat → LP
  | 0 => s
  | i + 1 => pprP M q s i * M i (q.getD i 0)
/-! ### supports -/
def Sup (B : Int) (a : LP) : Prop := ∀ e, a.f e ≠ 0 → -B ≤ e ∧ e ≤ B
theorem Sup.mono {B C : Int} {a : LP} (h : Sup B a) (hc : B ≤ C) : Sup C a := fun e he => by have := h e he; omega
theorem Sup.add {B : Int} {a b : LP} (h1 : Sup B a) (h2 : Sup B b) : Sup B (a + b) := fun e he => by
  by_cases c : a.f e = 0
  · exact h2 e (fun hh => he (by rw [LP.add_f, c, hh]; rfl))
  · exact h1 e c
theorem Sup.smul {B : Int} {a : LP} (k : Int) (h : Sup B a) : Sup B (LP.smul k a) := fun e he => h e (fun hh => he (by rw [LP.smul_f, hh, Int.mul_zero]))
theorem Sup.neg {B : Int} {a : LP} (h : Sup B a) : Sup B (-a) := h.smul (-1)
theorem Sup.zero {B : Int} : Sup B (0 : LP) := fun e he => absurd rfl he
theorem Sup.monom {B : Int} (c i : Int) (h : -B ≤ i ∧ i ≤ B) : Sup B (LP.mono c i) := fun e he => by
  have : e = i := Classical.byContradiction fun hh => he (if_neg hh)
  omega
theorem Sup.one {B : Int} (h : 0 ≤ B) : Sup B (1 : LP) := Sup.monom 1 0 (by omega)
theorem Sup.win {B : Nat} {a : LP} (h : Sup B a) : Win a.f (-(B : Int)) (2 * B + 1) := fun e he => by have := h e he; omega
theorem Sup.mul {B C : Nat} {a b : LP} (h1 : Sup B a) (h2 : Sup C b) : Sup ((B + C : Nat) : Int) (a * b) := fun e he => by
  have h := fun i => h1 i
  apply Classical.byContradiction
  intro hc
  apply he
  rw [LP.mul_f, cvF_eq a b e h1.win]
  refine sI_zero (fun i h3 h4 => ?_)
  by_cases hb : b.f (e - i) = 0
  · rw [hb, Int.mul_zero]
  · by_cases ha : a.f i = 0
    · rw [ha, Int.zero_mul]
    · have := h2 _ hb; have := h1 _ ha; omega
end Go.Proofs.Yteecmiagfjjefaa
