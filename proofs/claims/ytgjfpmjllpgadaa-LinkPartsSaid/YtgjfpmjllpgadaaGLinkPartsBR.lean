/- Rows of numbers. Plain facts: nothing of the program is here. -/
import Derived.Test.YtgjfpmjllpgadaaGLinkPartsAA
import Derived.Test.YtgjfpmjllpgadaaGLinkPartsBL
set_option linter.unusedVariables false
set_option linter.unusedSimpArgs false
namespace Go.Proofs.Ytgjfpmjllpgadaa

/-- a row of values -/
def rowF (c : Nat) (F : Nat → Int) : List Int := (List.range c).map F
theorem rowF_len (c : Nat) (F : Nat → Int) : (rowF c F).length = c := by simp [rowF]
theorem rowF_get {c : Nat} {F : Nat → Int} {i : Nat} (h : i < c) : (rowF c F).getD i 0 = F i := by simp [rowF, List.getD, h]
theorem rowF_ext {c : Nat} {F G : Nat → Int} (h : ∀ i, i < c → F i = G i) : rowF c F = rowF c G := List.map_congr_left (fun i hi => h i (List.mem_range.1 hi))
theorem rowF_set {c : Nat} {F G : Nat → Int} {i : Nat} (hi : i < c) {v : Int} (h1 : G i = v) (h2 : ∀ j, j < c → j ≠ i → G j = F j) : (rowF c F).set i v = rowF c G := by
  apply List.ext_getElem (by simp [rowF])
  intro j g1 g2
  rw [List.getElem_set]
  simp only [rowF, List.getElem_map, List.getElem_range]
  by_cases e : i = j
  · subst e; rw [if_pos rfl, h1]
  · rw [if_neg e, h2 j (by simpa [rowF] using g2) (fun e2 => e e2.symm)]
theorem rowF_zero (c : Nat) : rowF c (fun _ => 0) = List.replicate c 0 := by simp [rowF, List.map_const']
end Go.Proofs.Ytgjfpmjllpgadaa

/- The sums of the crossings of components. Plain facts: nothing of the program is here. -/
set_option linter.unusedVariables false
set_option linter.unusedSimpArgs false
namespace Go.Proofs.Ytgjfpmjllpgadaa

/-- the strands that cross at the j-th letter, and its sign -/
def crA (of : Nat → Nat) (w : List Int) (j : Nat) : Nat := of (fAt w j (ltr (w.getD j 0) - 1))
def crB (of : Nat → Nat) (w : List Int) (j : Nat) : Nat := of (fAt w j (ltr (w.getD j 0)))
def sgnX (x : Int) : Int := if 0 < x then 1 else -1
/-- the sum of the signs where two components cross -/
def crS (of : Nat → Nat) (w : List Int) : Nat → Nat → Nat → Int
  | 0, _, _ => 0
  | j + 1, p, q => crS of w j p q + (if (p = crA of w j ∧ q = crB of w j) ∨ (p = crB of w j ∧ q = crA of w j) then sgnX (w.getD j 0) else 0)
theorem crS_bd (of : Nat → Nat) (w : List Int) : ∀ (j p q : Nat), -(j : Int) ≤ crS of w j p q ∧ crS of w j p q ≤ j
  | 0, _, _ => by simp [crS]
  | j + 1, p, q => by
    have ih := crS_bd of w j p q
    have : -1 ≤ sgnX (w.getD j 0) ∧ sgnX (w.getD j 0) ≤ 1 := by unfold sgnX; split <;> omega
    simp only [crS]
    split <;> omega
/-- the linking numbers -/
def lnk (of : Nat → Nat) (w : List Int) (p q : Nat) : Int := if p = q then crS of w w.length p q else (crS of w w.length p q).tdiv 2
/-- what the reference adds up -/
def crR (of : Nat → Nat) (w : List Int) (j p q : Nat) : Int := if p = q then 2 * crS of w j p q else crS of w j p q
theorem crR_bd (of : Nat → Nat) (w : List Int) (j p q : Nat) : -(2 * (j : Int)) ≤ crR of w j p q ∧ crR of w j p q ≤ 2 * j := by
  have := crS_bd of w j p q
  unfold crR; split <;> omega
theorem crR_half (of : Nat → Nat) (w : List Int) (p q : Nat) : (crR of w w.length p q).tdiv 2 = lnk of w p q := by
  unfold crR lnk
  split
  · rw [Int.mul_comm, Int.mul_tdiv_cancel _ (by omega)]
  · rfl
end Go.Proofs.Ytgjfpmjllpgadaa
