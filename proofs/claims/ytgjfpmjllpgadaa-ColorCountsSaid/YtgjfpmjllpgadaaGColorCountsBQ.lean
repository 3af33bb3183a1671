/- Rows of numbers. Plain facts: nothing of the program is here. -/
import Derived.Test.YtgjfpmjllpgadaaGColorCountsAA
import Derived.Test.YtgjfpmjllpgadaaGColorCountsBI
import Derived.Test.YtgjfpmjllpgadaaGColorCountsBH
import Derived.Test.YtgjfpmjllpgadaaGColorCountsBM
import Derived.Test.YtgjfpmjllpgadaaGColorCountsBN
import Derived.Test.YtgjfpmjllpgadaaGColorCountsBE
import Derived.Test.YtgjfpmjllpgadaaGColorCountsAD
set_option linter.unusedVariables false
set_option linter.unusedSimpArgs false
namespace Go.Proofs.Ytgjfpmjllpgadaa

/-- a row of values -/
def rowF (c : Nat) (F : Nat → Int) : List Int := (List.range c).map F
theorem rowF_len (c : Nat) (F : Nat → Int) : (rowF c F).length = c := by simp [rowF]
theorem rowF_get {c : Nat} {F : Nat → Int} {i : Nat} (h : i < c) : (rowF c F).getD i 0 = F i := by simp [rowF, List.getD, h]
theorem rowF_ext {c : Nat} {F G : Nat → Int} (h : ∀ i, i < c → F i = G i) : rowF c F = rowF c G := List.map_congr_left (fun i hi => h i (List.mem_range.1 hi))
theorem rowF_set {c : Nat} {F G : Nat → Int} {i : Nat} (hi : i < c) {v : Int} (h1 : G i = v) (h2 : ∀ j, j < c → j ≠ i → G j = F j) : (rowF c F).set i v = rowF c G := by
  apply List.ext_getElem (by simp [rowF])
  intro j g1 g2
  rw [List.getElem_set]
  simp only [rowF, List.getElem_map, List.getElem_range]
  by_cases e : i = j
  · subst e; rw [if_pos rfl, h1]
  · rw [if_neg e, h2 j (by simpa [rowF] using g2) (fun e2 => e e2.symm)]
theorem rowF_zero (c : Nat) : rowF c (fun _ => 0) = List.replicate c 0 := by simp [rowF, List.map_const']
end Go.Proofs.Ytgjfpmjllpgadaa

/- timbref1.Zeros: all vectors are tried. No condition of its own. -/
set_option linter.unusedVariables false
set_option linter.unusedSimpArgs false
namespace Go.Proofs.Ytgjfpmjllpgadaa
open Go.RowKit

/-- the variable tb holds the vector v, which lies at tv -/
structure HV (tb tv : Nat) (v : List Nat) (h : HP) : Prop where
  b : h.blk tb = some [.ref tv 0 1 v.length]
  v : h.blk tv = some (ints (nvi v))
  lb : tb < 2 * h.next
  lv : tv < 2 * h.next
end Go.Proofs.Ytgjfpmjllpgadaa

/- slices.Index and slices.Contains at lists of ints. No condition of its own. -/
set_option linter.unusedVariables false
set_option linter.unusedSimpArgs false
namespace Go.Proofs.Ytgjfpmjllpgadaa
open Go.RowKit

end Go.Proofs.Ytgjfpmjllpgadaa

/- timbref1.Permutations: it calls its function for all permutations, one after the other. No condition of its own. -/
set_option linter.unusedVariables false
set_option linter.unusedSimpArgs false
namespace Go.Proofs.Ytgjfpmjllpgadaa
open Go.RowKit

/-- numbers as a value -/
def pnat (q : List Nat) : List Int := q.map fun x : Nat => (x : Int)
@[simp] theorem pnat_len (q : List Nat) : (pnat q).length = q.length := by simp [pnat]
theorem pnat_app (p q : List Nat) : pnat (p ++ q) = pnat p ++ pnat q := by simp [pnat]
/-- a permutation of the numbers below n -/
structure Good (n : Nat) (q : List Nat) : Prop where
  len : q.length = n
  lt : ∀ x ∈ q, x < n
  nd : q.Nodup
/-- WHAT A FUNCTION THAT IS CALLED FOR EACH PERMUTATION DOES: it turns the block T0. -/
def Each (n T0 : Nat) (g : FuncId) (cap : List PV) (val : List (List Nat) → List PV) : Prop :=
  ∀ (ps : List (List Nat)) (q : List Nat) (h : HP), T0 < 2 * h.next → h.blk T0 = some (val ps) → Good n q → SChE Try.prog g (pli (pnat q) :: cap) h (fun _ h' => h'.blk T0 = some (val (ps ++ [q])) ∧ Fr [T0] h h')
/-- what is done when the numbers below i are -/
def doneI (n d : Nat) (p : List Nat) (i : Nat) : List (List Nat) := ((rem n p).filter fun x => decide (x < i)).flatMap fun x => (sfx n d (p ++ [x])).map ((p ++ [x]) ++ ·)
end Go.Proofs.Ytgjfpmjllpgadaa

/- timbref1.Parity. No condition of its own. -/
set_option linter.unusedVariables false
set_option linter.unusedSimpArgs false
namespace Go.Proofs.Ytgjfpmjllpgadaa
open Go.RowKit

end Go.Proofs.Ytgjfpmjllpgadaa
