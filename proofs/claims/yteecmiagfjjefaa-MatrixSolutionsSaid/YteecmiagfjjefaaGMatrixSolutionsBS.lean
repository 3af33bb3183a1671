/- slices.Index and slices.Contains at lists of ints. No condition of its own. -/
import Derived.Test.YteecmiagfjjefaaGMatrixSolutionsBK
import Derived.Test.YteecmiagfjjefaaGMatrixSolutionsBQ
import Derived.Test.YteecmiagfjjefaaGMatrixSolutionsAF
set_option linter.unusedVariables false
set_option linter.unusedSimpArgs false
namespace Go.Proofs.Yteecmiagfjjefaa
open Go.RowKit

end Go.Proofs.Yteecmiagfjjefaa

/- slices.Clone as a slice of the function's own. No condition of its own. -/
set_option linter.unusedVariables false
set_option linter.unusedSimpArgs false
namespace Go.Proofs.Yteecmiagfjjefaa
open Go.RowKit

end Go.Proofs.Yteecmiagfjjefaa

/- timbref1.Permutations: it calls its function for all permutations, one after the other. No condition of its own. -/
set_option linter.unusedVariables false
set_option linter.unusedSimpArgs false
namespace Go.Proofs.Yteecmiagfjjefaa
open Go.RowKit

/-- numbers as a value -/
def pnat (q : List Nat) : List Int := q.map fun x : Nat => (x : Int)
@[simp] theorem pnat_len (q : List Nat) : (pnat q).length = q.length := by simp [pnat]
theorem pnat_app (p q : List Nat) : pnat (p ++ q) = pnat p ++ pnat q := by simp [pnat]
/-- a permutation of the numbers below n -/
structure Good (n : Nat) (q : List Nat) : Prop where
  len : q.length = n
  lt : ∀ x ∈ q, x < n
  nd : q.Nodup
/-- WHAT A FUNCTION THAT IS CALLED FOR EACH PERMUTATION DOES: it turns the block T0. -/
def Each (n T0 : Nat) (g : FuncId) (cap : List PV) (val : List (List Nat) → List PV) : Prop :=
  ∀ (ps : List (List Nat)) (q : List Nat) (h : HP), T0 < 2 * h.next → h.blk T0 = some (val ps) → Good n q → SChE Try.prog g (pli (pnat q) :: cap) h (fun _ h' => h'.blk T0 = some (val (ps ++ [q])) ∧ Fr [T0] h h')
/-- what is done when the numbers below i are -/
def doneI (n d : Nat) (p : List Nat) (i : Nat) : List (List Nat) := ((rem n p).filter fun x => decide (x < i)).flatMap fun x => (sfx n d (p ++ [x])).map ((p ++ [x]) ++ ·)
/-- the function in the variable -/
def extC (n tE : Nat) (g : FuncId) (cap : List PV) : PV := .clo 30 [.lptr [pint n], .lptr [.clo g cap], .ptr tE 0]
end Go.Proofs.Yteecmiagfjjefaa

/- timbref1.Parity. No condition of its own. -/
set_option linter.unusedVariables false
set_option linter.unusedSimpArgs false
namespace Go.Proofs.Yteecmiagfjjefaa
open Go.RowKit

end Go.Proofs.Yteecmiagfjjefaa
