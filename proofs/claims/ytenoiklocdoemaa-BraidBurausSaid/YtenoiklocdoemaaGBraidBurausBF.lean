/- Fox derivatives: the plain facts. Nothing of the program is here. -/
import Derived.Test.YtenoiklocdoemaaGBraidBurausBD
import Derived.Test.YtenoiklocdoemaaGBraidBurausBE
set_option linter.unusedVariables false
set_option linter.unusedSimpArgs false
namespace Go.Proofs.Ytenoiklocdoemaa

def sg (x : Int) : Int := if 0 < x then 1 else -1
def wt (w : List Int) : Int := (w.map sg).sum
def fx1 (i x e : Int) : Int := if x = i then (if e = 0 then 1 else 0) else if x = -i then (if e = -1 then -1 else 0) else 0
def foxD (i : Int) : List Int → Int → Int
  | [], _ => 0
  | x :: w, e => fx1 i x e + foxD i w (e - sg x)
def single (s c : Int) : Tm := fun y => if y = s then some c else none
/-- the reference's way: by halves -/
noncomputable def dm (i : Int) : Nat → List Int → Tm
  | 0, _ => fun _ => none
  | n + 1, w => if w.length = 0 then fun _ => none else if w = [i] then single 0 1 else if w = [-i] then single (-1) (-1) else if w.length = 1 then fun _ => none else
    tplus (dm i n (w.take (w.length / 2))) (tmul (single (wt (w.take (w.length / 2))) 1) (dm i n (w.drop (w.length / 2)))) 1
end Go.Proofs.Ytenoiklocdoemaa

/- laurent: Check, Fit, Times, Mul; the reference's PolyFault and Fits. No condition of its own. -/
set_option linter.unusedVariables false
set_option linter.unusedSimpArgs false
namespace Go.Proofs.Ytenoiklocdoemaa
open Go.RowKit

theorem Fz.pair {h : HP} {a b a' b' : PV} (h1 : Fz h a a') (h2 : Fz h b b') : Fz h (.tup [a, b]) (.tup [a', b']) :=
  .tup rfl (fun i hi => by
    match i, hi with
    | 0, _ => exact h1
    | 1, _ => exact h2
    | i + 2, h => simp at h; omega)
def okc (x : Int) : Prop := -100000000 ≤ x ∧ x ≤ 100000000
instance (x : Int) : Decidable (okc x) := by unfold okc; exact inferInstance
instance (p : Po) : Decidable (canon p) := by unfold canon; exact inferInstance
def pF (p : Po) : Int := if 200 < p.2.length ∨ 1000 < p.1 ∨ p.1 < -1000 then 2 else if ¬ canon p then 3 else if ∀ x ∈ p.2, okc x then 0 else 1
/-- what Fit and Fits return -/
def fitP (p : Po) : PV := .tup [ppo (if pF p = 0 then p else (0, [])), pint (if pF p = 0 then 0 else 2)]
end Go.Proofs.Ytenoiklocdoemaa

/- laurent: Times, Mul; multiplied. No condition of its own. -/
set_option linter.unusedVariables false
set_option linter.unusedSimpArgs false
namespace Go.Proofs.Ytenoiklocdoemaa
open Go.RowKit

/-- the product: the rows below i, and of row i the first j -/
def cv (a b : Po) (i j : Nat) (e : Int) : Int := ((List.range i).map fun r => a.2.getD r 0 * co b (e - a.1 - r)).sum + a.2.getD i 0 * coT b j (e - a.1 - i)
def cvn (a b : Po) (i : Nat) (e : Int) : Int := ((List.range i).map fun r => a.2.getD r 0 * co b (e - a.1 - r)).sum
def pmul (a b : Po) (e : Int) : Int := cvn a b a.2.length e
theorem cvn_succ (a b : Po) (i : Nat) (e : Int) : cvn a b (i + 1) e = cvn a b i e + a.2.getD i 0 * co b (e - a.1 - i) := by
  unfold cvn
  rw [List.range_succ, List.map_append, List.sum_append]; simp
theorem cvn_supp {a b : Po} {i : Nat} (hi : i ≤ a.2.length) {e : Int} (h : cvn a b i e ≠ 0) : a.1 + b.1 ≤ e ∧ e < a.1 + b.1 + (a.2.length + b.2.length - 1 : Nat) := by
  apply Classical.byContradiction; intro hc
  apply h
  unfold cvn
  apply sum_zero
  intro z hz
  obtain ⟨r, hr, rfl⟩ := List.mem_map.1 hz
  rw [List.mem_range] at hr
  by_cases h1 : co b (e - a.1 - r) = 0
  · rw [h1, Int.mul_zero]
  · have := co_in h1; omega
/-- what Add, Sub and Mul return -/
noncomputable def opP (p q : Po) (F : Int → Int) : PV := .tup [ppo (if (if pF p = 0 then pF q else pF p) = 0 then (if pF (cano F) = 0 then cano F else (0, [])) else (0, [])), pint (if (if pF p = 0 then pF q else pF p) = 0 then (if pF (cano F) = 0 then 0 else 2) else (if pF p = 0 then pF q else pF p))]
end Go.Proofs.Ytenoiklocdoemaa
