/- timbref1.Determinant and intmatrix.Det. No condition of its own. -/
import Derived.Test.YtgjfpmjllpgadaaGColorCountsBQ
import Derived.Test.YtgjfpmjllpgadaaGColorCountsBR
set_option linter.unusedVariables false
set_option linter.unusedSimpArgs false
namespace Go.Proofs.Ytgjfpmjllpgadaa
open Go.RowKit

/-- the part of the sum that is made -/
def part (m : List (List Int)) (n : Nat) (ps : List (List Nat)) : Int := sm ps fun s => sgn (invs s) * prd (ent m) (List.range n) s
/-- what is in the variable sum -/
def valD (m : List (List Int)) (n : Nat) (ps : List (List Nat)) : List PV := [pint (IntKind.i64.wrap (part m n ps))]
section
variable {P : Program} {T : TypeId → TI} {M : Hn} {cl : Oper → Cls} {ops : Array Oper} {l : List Oper} {t : Nat → PV} {h : HP} {K : AS → Prop} {d : Nat} {ty : TypeId} {pos : String} {aft : Array Edge}
end
/-- the product that is made -/
def ppr (M : Nat → Nat → Int) (q : List Nat) : Nat → Int
  | 0 => 1
  | i + 1 => ppr M q i * M i (q.getD i 0)
def p100 : Nat → Int
  | 0 => 1
  | i + 1 => p100 i * 100
theorem pow600_6 {i : Nat} (h : i ≤ 6) : pow600 i ≤ 50000000000000000 := by
  match i, h with
  | 0, _ => decide
  | 1, _ => decide
  | 2, _ => decide
  | 3, _ => decide
  | 4, _ => decide
  | 5, _ => decide
  | 6, _ => decide
end Go.Proofs.Ytgjfpmjllpgadaa
