/- Facts and contracts that the claim uses. No condition of its own. -/
import Derived.Test.YtkmkcbkfakoomaaDoorGRingTextsAV
set_option linter.unusedVariables false
set_option linter.unusedSimpArgs false
namespace Go.Proofs.YtkmkcbkfakoomaaDoor
open Go.RowKit
variable {P : Program} {T : TypeId → TI} {M : Hn} {cl : Oper → Cls} {ops : Array Oper} {l : List Oper} {t : Nat → PV} {h : HP} {K : AS → Prop} {d : Nat} {ty : TypeId} {pos : String} {aft : Array Edge} {n : Nat} {Q : Exit → AS → Prop}
theorem SC.law {f : FuncId} {args : List PV} {r : Value} (h : SC P f args (.sc r)) (w : World) (vs : Array Value) (hl : vs.size = args.length) (hv : ∀ i, i < args.length → V (fun _ => none) (fun _ => False) w (args.getD i .junk) (vs.getD i undef)) :
    Calls P f vs w fun e w' => e = .returned r ∧ Below w.heap.size w w' :=
  (h.2 (fun _ => False) w vs (fun _ hf => hf.elim) hl hv).mono fun e w' ⟨u, h1, h2, h3⟩ => ⟨by rw [h1, h2.sc_inv], h3⟩
end Go.Proofs.YtkmkcbkfakoomaaDoor
