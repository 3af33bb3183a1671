/- Facts and contracts that the claim uses. No condition of its own. -/
import Derived.Test.YtkmkcbkfakoomaaDoorGRingTextsBJ
import Derived.Test.YtkmkcbkfakoomaaDoorGRingTextsAB
import Derived.Test.YtkmkcbkfakoomaaDoorGRingTextsBA
import Derived.Test.YtkmkcbkfakoomaaDoorGRingTextsAW
import Derived.Test.YtkmkcbkfakoomaaDoorGRingTextsBB
set_option linter.unusedVariables false
set_option linter.unusedSimpArgs false
namespace Go.Proofs.YtkmkcbkfakoomaaDoor
open Go.RowKit
end Go.Proofs.YtkmkcbkfakoomaaDoor

/- Facts and contracts that the claim uses. No condition of its own. -/
set_option linter.unusedVariables false
set_option linter.unusedSimpArgs false
namespace Go.Proofs.YtkmkcbkfakoomaaDoor
open Go.RowKit
theorem vs_of {vs : Array Value} {us : List Value} (hl : vs.size = us.length) (h : ∀ i, i < us.length → vs.getD i undef = us.getD i undef) : vs = us.toArray := by
  apply Array.ext
  · simpa using hl
  · intro i h3 h4
    have := h i (by simpa using h4)
    simp at h4
    simpa [Array.getD, h3, List.getD, h4] using this
theorem V.pair {ρ : Pl} {Z : Nat → Prop} {w : World} {a b : PV} {x y : Value} (h1 : V ρ Z w a x) (h2 : V ρ Z w b y) : V ρ Z w (.tup [a, b]) (.tuple #[x, y]) := .tup _ _ rfl (fun i hi => by
  match i, hi with
  | 0, _ => exact h1
  | 1, _ => exact h2
  | i + 2, h => simp at h; omega)
theorem Fz.pair {h : HP} {a b a' b' : PV} (h1 : Fz h a a') (h2 : Fz h b b') : Fz h (.tup [a, b]) (.tup [a', b']) :=
  .tup rfl (fun i hi => by
    match i, hi with
    | 0, _ => exact h1
    | 1, _ => exact h2
    | i + 2, h => simp at h; omega)
theorem Fz.nil {h : HP} : Fz h (.lst true 0 0 []) (pli []) := Fz.nrm (p := .lst true 0 0 []) rfl
end Go.Proofs.YtkmkcbkfakoomaaDoor

/- Facts and contracts that the claim uses. No condition of its own. -/
set_option linter.unusedVariables false
set_option linter.unusedSimpArgs false
namespace Go.Proofs.YtkmkcbkfakoomaaDoor
open Go.RowKit
end Go.Proofs.YtkmkcbkfakoomaaDoor

/- Facts and contracts that the claim uses. No condition of its own. -/
set_option linter.unusedVariables false
set_option linter.unusedSimpArgs false
namespace Go.Proofs.YtkmkcbkfakoomaaDoor
open Go.RowKit
end Go.Proofs.YtkmkcbkfakoomaaDoor
