/-
  The sign of a permutation: inversions and cycles. Plain facts: nothing of the program is here.
-/
import Derived.Test.YtgjfpmjllpgadaaGColorCountsAC
import Derived.Test.YtgjfpmjllpgadaaGColorCountsAA
set_option linter.unusedVariables false
set_option linter.unusedSimpArgs false
namespace Go.Proofs.Ytgjfpmjllpgadaa

/-- how many k below m -/
def cnt (p : Nat → Bool) : Nat → Nat
  | 0 => 0
  | m + 1 => cnt p m + if p m then 1 else 0
/-- inversions -/
def ivc (f : Nat → Nat) : Nat → Nat
  | 0 => 0
  | i + 1 => ivc f i + cnt (fun k => decide (f i < f k)) i
structure IsP (f : Nat → Nat) (n : Nat) : Prop where
  lt : ∀ i, i < n → f i < n
  inj : ∀ i j, i < n → j < n → f i = f j → i = j
theorem itr_congr {f g : Nat → Nat} {n : Nat} (hf : ∀ i, i < n → f i < n) (h : ∀ i, i < n → f i = g i) : ∀ (j i : Nat), i < n → itr f j i = itr g j i
  | 0, _, _ => rfl
  | j + 1, i, hi => by
    simp only [itr]
    rw [← itr_congr hf h j i hi, h _ (itr_lt hf j i hi)]
theorem IsP.pm {f : Nat → Nat} {n : Nat} (h : IsP f n) : Pm (tabN n f) := by
  refine ⟨fun i hi => ?_, ?_⟩
  · have hl : (tabN n f).length = n := tab_len n f
    rw [hl] at hi ⊢
    rw [tabN_get hi]
    have := h.lt i hi
    omega
  · unfold tabN
    rw [List.Nodup, List.pairwise_map]
    refine List.Pairwise.imp_of_mem ?_ (List.nodup_range (n := n))
    intro a b ha hb hne he
    exact hne (h.inj a b (by simpa using ha) (by simpa using hb) (by exact_mod_cast he))
theorem Pm.isP {xs : List Int} (h : Pm xs) : IsP (fn xs) xs.length := ⟨h.lt, h.inj⟩
theorem fn_tab {n : Nat} {f : Nat → Nat} {i : Nat} (hi : i < n) : fn (tabN n f) i = f i := by
  unfold fn; rw [tabN_get hi]; simp
theorem Pm.per {xs : List Int} (hp : Pm xs) {i : Nat} (hi : i < xs.length) : ∃ L, 1 ≤ L ∧ L ≤ xs.length ∧ itr (fn xs) L i = i := by
  obtain ⟨hm, hd⟩ := cyc_mk hp xs.length (Nat.le_refl _)
  obtain ⟨c, h1, h2⟩ := hm.on i hi (hd i hi)
  have := cyclesOf_lens hp.rng c h1
  exact ⟨c.length, this.1, this.2, h2⟩
theorem IsP.per {f : Nat → Nat} {n : Nat} (h : IsP f n) {i : Nat} (hi : i < n) : ∃ L, 1 ≤ L ∧ L ≤ n ∧ itr f L i = i := by
  have hl : (tabN n f).length = n := tab_len n f
  obtain ⟨L, h1, h2, h3⟩ := h.pm.per (i := i) (by rw [hl]; exact hi)
  rw [hl] at h2
  refine ⟨L, h1, h2, ?_⟩
  rwa [← itr_congr h.lt (fun i hi => (fn_tab hi).symm) L i hi] at h3
theorem IsP.pre {f : Nat → Nat} {n : Nat} (h : IsP f n) {y : Nat} (hy : y < n) : ∃ u, u < n ∧ f u = y := by
  obtain ⟨L, h1, h2, h3⟩ := h.per hy
  obtain ⟨m, rfl⟩ : ∃ m, L = m + 1 := ⟨L - 1, by omega⟩
  exact ⟨itr f m y, itr_lt h.lt m y hy, h3⟩
/-- from a point of an orbit the way leads back -/
theorem IsP.back {f : Nat → Nat} {n : Nat} (h : IsP f n) {i j k : Nat} (hi : i < n) (e : itr f j i = k) : ∃ m, itr f m k = i := by
  obtain ⟨L, h1, h2, h3⟩ := h.per hi
  have hle : j ≤ L * (j + 1) := Nat.le_trans (Nat.le_succ j) (Nat.le_mul_of_pos_left _ h1)
  refine ⟨L * (j + 1) - j, ?_⟩
  rw [← e, ← itr_add, Nat.add_sub_cancel' hle]
  exact itr_mul h3 _

/-- the least point of its orbit -/
def mn (f : Nat → Nat) (k : Nat) : Prop := ∀ j, k ≤ itr f j k
noncomputable instance (f : Nat → Nat) (k : Nat) : Decidable (mn f k) := Classical.propDecidable _
noncomputable def mnc (f : Nat → Nat) : Nat → Nat
  | 0 => 0
  | k + 1 => mnc f k + if mn f k then 1 else 0
/-- the last point is passed by -/
def byp (f : Nat → Nat) (N : Nat) (x : Nat) : Nat := if f x = N then f N else f x
section
variable {f : Nat → Nat} {N : Nat} (h : IsP f (N + 1)) (hv : f N ≠ N)
include h hv
set_option linter.unusedSectionVars false
end
/-- the sign of a count -/
def sgn (m : Nat) : Int := if m % 2 = 0 then 1 else -1
theorem sgn_succ (m : Nat) : sgn (m + 1) = - sgn m := by
  unfold sgn
  by_cases h : m % 2 = 0
  · rw [if_pos h, if_neg (by omega)]
  · rw [if_neg h, if_pos (by omega)]; rfl
theorem sgn_bd (m : Nat) : -1 ≤ sgn m ∧ sgn m ≤ 1 := by unfold sgn; split <;> omega
end Go.Proofs.Ytgjfpmjllpgadaa

/- The determinant by rows (Laplace) and over all permutations (Leibniz). Plain facts: nothing of the program is here. -/
set_option linter.unusedVariables false
set_option linter.unusedSimpArgs false
namespace Go.Proofs.Ytgjfpmjllpgadaa

/-! ### sums -/
def sm {α : Type} : List α → (α → Int) → Int
  | [], _ => 0
  | x :: l, g => g x + sm l g
theorem sm_append {α : Type} (g : α → Int) : ∀ a b : List α, sm (a ++ b) g = sm a g + sm b g
  | [], b => by simp [sm]
  | x :: a, b => by simp only [List.cons_append, sm, sm_append g a b]; omega
theorem sm_congr {α : Type} {g h : α → Int} : ∀ {l : List α}, (∀ x ∈ l, g x = h x) → sm l g = sm l h
  | [], _ => rfl
  | x :: l, e => by simp only [sm]; rw [e x (by simp), sm_congr (fun y hy => e y (by simp [hy]))]
theorem sm_mul {α : Type} (c : Int) (g : α → Int) : ∀ l : List α, sm l (fun x => c * g x) = c * sm l g
  | [] => by simp [sm]
  | x :: l => by simp only [sm, sm_mul c g l, Int.mul_add]
/-! ### what is left -/
def rem (n : Nat) (p : List Nat) : List Nat := (List.range n).filter fun i => !p.contains i
def Asc (l : List Nat) : Prop := l.Pairwise (· < ·)
theorem asc_range (n : Nat) : Asc (List.range n) := List.pairwise_lt_range
theorem asc_split {a b : List Nat} {x : Nat} (h : Asc (a ++ x :: b)) : (a ++ x :: b).filter (fun y => y != x) = a ++ b ∧ ((a ++ x :: b).filter fun y => decide (y < x)) = a := by
  have h1 := List.pairwise_append.1 h
  have h2 := List.pairwise_cons.1 h1.2.1
  have ha : ∀ y ∈ a, y < x := fun y hy => h1.2.2 y hy x (by simp)
  have hb : ∀ y ∈ b, x < y := h2.1
  constructor
  · rw [List.filter_append, List.filter_cons_of_neg (by simp)]
    rw [List.filter_eq_self.2 (fun y hy => by have := ha y hy; simp; omega), List.filter_eq_self.2 (fun y hy => by have := hb y hy; simp; omega)]
  · rw [List.filter_append, List.filter_cons_of_neg (by simp)]
    rw [List.filter_eq_self.2 (fun y hy => by have := ha y hy; simp; omega), List.filter_eq_nil_iff.2 (fun y hy => by have := hb y hy; simp; omega)]
    simp

/-! ### by rows -/
/-- alternating sum over a list, the list without each of its elements in turn -/
def alts (F : Nat → List Nat → Int) : Nat → List Nat → List Nat → Int
  | _, _, [] => 0
  | j, a, x :: b => sgn j * F x (a ++ b) + alts F (j + 1) (a ++ [x]) b
def lap (M : Nat → Nat → Int) : List Nat → List Nat → Int
  | [], _ => 1
  | r :: rs, cs => alts (fun c rest => M r c * lap M rs rest) 0 [] cs
/-! ### over all permutations -/
/-- how the prefix p may go on, k numbers more, in the order of the numbers -/
def sfx (n : Nat) : Nat → List Nat → List (List Nat)
  | 0, _ => [[]]
  | k + 1, p => (rem n p).flatMap fun i => (sfx n k (p ++ [i])).map (i :: ·)
def sgp (n : Nat) (p : List Nat) (i : Nat) : Int := sgn ((rem n p).filter fun x => decide (x < i)).length
def trm (M : Nat → Nat → Int) (n : Nat) : List Nat → List Nat → List Nat → Int
  | r :: rs, p, i :: q => sgp n p i * (M r i * trm M n rs (p ++ [i]) q)
  | _, _, _ => 1
def ltc (x : Nat) (l : List Nat) : Nat := (l.filter fun y => decide (y < x)).length
def invs : List Nat → Nat
  | [] => 0
  | x :: l => ltc x l + invs l
def prd (M : Nat → Nat → Int) : List Nat → List Nat → Int
  | r :: rs, i :: q => M r i * prd M rs q
  | _, _ => 1
/-! ### the sign, counted the other way round -/
def gtc (x : Nat) (l : List Nat) : Nat := (l.filter fun y => decide (x < y)).length
end Go.Proofs.Ytgjfpmjllpgadaa

/- Determinants of matrices of Laurent polynomials: by rows (Laplace) and over all permutations (Leibniz). Plain facts: nothing of the program is here. -/
set_option linter.unusedVariables false
set_option linter.unusedSimpArgs false
namespace Go.Proofs.Ytgjfpmjllpgadaa

/-! ### sums -/
def smP {α : Type} : List α → (α → LP) → LP
  | [], _ => 0
  | x :: l, g => g x + smP l g
/-! ### by rows -/
def altsP (F : Nat → List Nat → LP) : Nat → List Nat → List Nat → LP
  | _, _, [] => 0
  | j, a, x :: b => LP.smul (sgn j) (F x (a ++ b)) + altsP F (j + 1) (a ++ [x]) b
noncomputable def lapP (M : Nat → Nat → LP) : List Nat → List Nat → LP
  | [], _ => 1
  | r :: rs, cs => altsP (fun c rest => M r c * lapP M rs rest) 0 [] cs
noncomputable def trmP (M : Nat → Nat → LP) (n : Nat) : List Nat → List Nat → List Nat → LP
  | r :: rs, p, i :: q => LP.smul (sgp n p i) (M r i * trmP M n rs (p ++ [i]) q)
  | _, _, _ => 1
noncomputable def prdP (M : Nat → Nat → LP) : List Nat → List Nat → LP
  | r :: rs, i :: q => M r i * prdP M rs q
  | _, _ => 1
/-- the product that is made, from the left -/
noncomputable def pprP (M : Nat → Nat → LP) (q : List Nat) (s : LP) : Nat → LP
  | 0 => s
  | i + 1 => pprP M q s i * M i (q.getD i 0)
/-! ### supports -/
def Sup (B : Int) (a : LP) : Prop := ∀ e, a.f e ≠ 0 → -B ≤ e ∧ e ≤ B
theorem Sup.mono {B C : Int} {a : LP} (h : Sup B a) (hc : B ≤ C) : Sup C a := fun e he => by have := h e he; omega
theorem Sup.add {B : Int} {a b : LP} (h1 : Sup B a) (h2 : Sup B b) : Sup B (a + b) := fun e he => by
  by_cases c : a.f e = 0
  · exact h2 e (fun hh => he (by rw [LP.add_f, c, hh]; rfl))
  · exact h1 e c
theorem Sup.smul {B : Int} {a : LP} (k : Int) (h : Sup B a) : Sup B (LP.smul k a) := fun e he => h e (fun hh => he (by rw [LP.smul_f, hh, Int.mul_zero]))
theorem Sup.neg {B : Int} {a : LP} (h : Sup B a) : Sup B (-a) := h.smul (-1)
theorem Sup.zero {B : Int} : Sup B (0 : LP) := fun e he => absurd rfl he
theorem Sup.monom {B : Int} (c i : Int) (h : -B ≤ i ∧ i ≤ B) : Sup B (LP.mono c i) := fun e he => by
  have : e = i := Classical.byContradiction fun hh => he (if_neg hh)
  omega
theorem Sup.one {B : Int} (h : 0 ≤ B) : Sup B (1 : LP) := Sup.monom 1 0 (by omega)
theorem Sup.win {B : Nat} {a : LP} (h : Sup B a) : Win a.f (-(B : Int)) (2 * B + 1) := fun e he => by have := h e he; omega
theorem Sup.mul {B C : Nat} {a b : LP} (h1 : Sup B a) (h2 : Sup C b) : Sup ((B + C : Nat) : Int) (a * b) := fun e he => by
  have h := fun i => h1 i
  apply Classical.byContradiction
  intro hc
  apply he
  rw [LP.mul_f, cvF_eq a b e h1.win]
  refine sI_zero (fun i h3 h4 => ?_)
  by_cases hb : b.f (e - i) = 0
  · rw [hb, Int.mul_zero]
  · by_cases ha : a.f i = 0
    · rw [ha, Int.zero_mul]
    · have := h2 _ hb; have := h1 _ ha; omega
end Go.Proofs.Ytgjfpmjllpgadaa
