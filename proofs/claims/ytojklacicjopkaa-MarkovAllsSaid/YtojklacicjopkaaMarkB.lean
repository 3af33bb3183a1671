/- markov.local. No condition of its own. -/
import Derived.Test.YtojklacicjopkaaMarkA
set_option linter.unusedVariables false
set_option linter.unusedSimpArgs false
namespace Go.Proofs.Ytojklacicjopkaa
open Go.RowKit

theorem flat3 (x y z : Bool × List Int) : flat [x, y, z] = x.2 ++ y.2 ++ z.2 := by simp [flat]
theorem flat2 (x y : Bool × List Int) : flat [x, y] = x.2 ++ y.2 := by simp [flat]
theorem take_get {w : List Int} {q c i : Nat} (hi : i < c) (h : q + c ≤ w.length) : ((w.take (q + c)).drop q).getD i 0 = wAt w (q + i) := by
  unfold wAt
  simp only [List.getD, List.getElem?_drop, List.getElem?_take]
  rw [if_pos (by omega)]
theorem tk_len {w : List Int} {q c : Nat} (h : q + c ≤ w.length) : ((w.take (q + c)).drop q).length = c := by simp; omega
end Go.Proofs.Ytojklacicjopkaa
