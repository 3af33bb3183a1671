/- laurent: Times, Mul; multiplied. No condition of its own. -/
import Derived.Test.YtenoiklocdoemaaGTopBurauDetBA
set_option linter.unusedVariables false
set_option linter.unusedSimpArgs false
namespace Go.Proofs.Ytenoiklocdoemaa
open Go.RowKit

/-- the product: the rows below i, and of row i the first j -/
def cv (a b : Po) (i j : Nat) (e : Int) : Int := ((List.range i).map fun r => a.2.getD r 0 * co b (e - a.1 - r)).sum + a.2.getD i 0 * coT b j (e - a.1 - i)
def cvn (a b : Po) (i : Nat) (e : Int) : Int := ((List.range i).map fun r => a.2.getD r 0 * co b (e - a.1 - r)).sum
def pmul (a b : Po) (e : Int) : Int := cvn a b a.2.length e
theorem cvn_succ (a b : Po) (i : Nat) (e : Int) : cvn a b (i + 1) e = cvn a b i e + a.2.getD i 0 * co b (e - a.1 - i) := by
  unfold cvn
  rw [List.range_succ, List.map_append, List.sum_append]; simp
theorem cvn_supp {a b : Po} {i : Nat} (hi : i ≤ a.2.length) {e : Int} (h : cvn a b i e ≠ 0) : a.1 + b.1 ≤ e ∧ e < a.1 + b.1 + (a.2.length + b.2.length - 1 : Nat) := by
  apply Classical.byContradiction; intro hc
  apply h
  unfold cvn
  apply sum_zero
  intro z hz
  obtain ⟨r, hr, rfl⟩ := List.mem_map.1 hz
  rw [List.mem_range] at hr
  by_cases h1 : co b (e - a.1 - r) = 0
  · rw [h1, Int.mul_zero]
  · have := co_in h1; omega
/-- what Add, Sub and Mul return -/
noncomputable def opP (p q : Po) (F : Int → Int) : PV := .tup [ppo (if (if pF p = 0 then pF q else pF p) = 0 then (if pF (cano F) = 0 then cano F else (0, [])) else (0, [])), pint (if (if pF p = 0 then pF q else pF p) = 0 then (if pF (cano F) = 0 then 0 else 2) else (if pF p = 0 then pF q else pF p))]
end Go.Proofs.Ytenoiklocdoemaa
