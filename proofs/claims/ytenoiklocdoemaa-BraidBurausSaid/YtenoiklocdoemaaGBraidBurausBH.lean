/- The terms of a polynomial in order; products by terms. No condition of its own. -/
import Derived.Test.YtenoiklocdoemaaGBraidBurausBF
set_option linter.unusedVariables false
set_option linter.unusedSimpArgs false
namespace Go.Proofs.Ytenoiklocdoemaa
open Go.RowKit

/-- the terms of a polynomial, in order -/
def enl (a : Po) : Nat → List (Int × Int)
  | 0 => []
  | n + 1 => enl a n ++ (if a.2.getD n 0 = 0 then [] else [(a.1 + n, a.2.getD n 0)])
end Go.Proofs.Ytenoiklocdoemaa
