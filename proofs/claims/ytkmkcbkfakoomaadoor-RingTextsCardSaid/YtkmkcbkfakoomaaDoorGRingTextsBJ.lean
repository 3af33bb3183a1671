/- Facts and contracts that the claim uses. No condition of its own. -/
import Derived.Test.YtkmkcbkfakoomaaDoorGRingTextsBH
import Derived.Test.YtkmkcbkfakoomaaDoorGRingTextsBI
import Derived.Test.YtkmkcbkfakoomaaDoorRows
import Derived.Test.YtkmkcbkfakoomaaDoorGRingTextsAE
import Derived.Test.YtkmkcbkfakoomaaDoorGRingTextsAA
import Derived.Test.YtkmkcbkfakoomaaDoorGRingTextsBG
import Derived.Deep.QuietTactic
import Derived.BigQuiet
import Derived.Test.YtkmkcbkfakoomaaDoorGRingTextsBF
import Derived.Test.YtkmkcbkfakoomaaDoorGRingTextsAC
import Derived.Maps.OwnOps
import Derived.Maps.OwnSet
import Derived.WalkKit
set_option linter.unusedVariables false
set_option linter.unusedSimpArgs false
namespace Go.Proofs.YtkmkcbkfakoomaaDoor
open Go.RowKit
end Go.Proofs.YtkmkcbkfakoomaaDoor

/- Facts and contracts that the claim uses. No condition of its own. -/
set_option linter.unusedVariables false
set_option linter.unusedSimpArgs false
namespace Go.Proofs.YtkmkcbkfakoomaaDoor
open Go.RowKit
end Go.Proofs.YtkmkcbkfakoomaaDoor

/- Facts and contracts that the claim uses. No condition of its own. -/
set_option linter.unusedVariables false
set_option linter.unusedSimpArgs false
namespace Go.Proofs.YtkmkcbkfakoomaaDoor
open Go.RowKit
end Go.Proofs.YtkmkcbkfakoomaaDoor

/- Facts and contracts that the claim uses. No condition of its own. -/
set_option linter.unusedVariables false
set_option linter.unusedSimpArgs false
namespace Go.Proofs.YtkmkcbkfakoomaaDoor
open Go.RowKit
end Go.Proofs.YtkmkcbkfakoomaaDoor

/- Facts and contracts that the claim uses. No condition of its own. -/
set_option linter.unusedVariables false
set_option linter.unusedSimpArgs false
namespace Go.Proofs.YtkmkcbkfakoomaaDoor
open Go.RowKit
end Go.Proofs.YtkmkcbkfakoomaaDoor

/- Facts and contracts that the claim uses. No condition of its own. -/
set_option linter.unusedVariables false
set_option linter.unusedSimpArgs false
namespace Go.Proofs.YtkmkcbkfakoomaaDoor
open Go.RowKit
end Go.Proofs.YtkmkcbkfakoomaaDoor

/- Facts and contracts that the claim uses. No condition of its own. -/
set_option linter.unusedVariables false
set_option linter.unusedSimpArgs false
namespace Go.Proofs.YtkmkcbkfakoomaaDoor
open Go.RowKit Go.ChangeMaps Go.MapKept
open Go.WideElems (Fit rd rg pl rd_val elemAt)
open Go.Maps (Keyed)
def RV (v : Value) : Option (DataW Value × List MemPlace) := some (.held v, [])
def cellOf : Option Value → DataW Value
  | some v => .held v
  | none => .nil
def IMap (P : Program) (k : TypeId) (w : World) (b n : Nat) (m : Int → Option Value) : Prop :=
  ∃ D : DataW Value, w.ownsMap P k RV b n D ∧ Maps.IsMap D ∧ ∀ x, (Lit.int .i64 x).wf = true → D.atKey (.int .i64 x) .nil = cellOf (m x)
section
variable {P : Program} {k t e : TypeId} {w w' : World} {b n : Nat} {m : Int → Option Value}
theorem IMap.congr {m' : Int → Option Value} (h : IMap P k w b n m) (hm : ∀ x, m x = m' x) : IMap P k w b n m' := by
  have : m = m' := funext hm
  subst this; exact h
theorem IMap.mono {n' : Nat} (h : IMap P k w b n m) (hn : n ≤ n') : IMap P k w b n' m := by
  obtain ⟨D, h1, h2, h3⟩ := h
  exact ⟨D, h1.mono hn, h2, h3⟩
theorem IMap.lt (h : IMap P k w b n m) : b < w.heap.size := by obtain ⟨D, h1, _⟩ := h; exact h1.lt
theorem IMap.kept {row : Option Nat} (h : IMap P k w b n m) (hg : w.grownBy w' row) (hne : some b ≠ row) : IMap P k w' b n m := by
  obtain ⟨D, h1, h2, h3⟩ := h
  exact ⟨D, h1.kept hg hne, h2, h3⟩
theorem IMap.alloc (h : IMap P k w b n m) (o : Obj) : IMap P k (w.alloc o) b n m := h.kept (World.grownBy_alloc w o none) (by simp)
theorem IMap.drew (h : IMap P k w b n m) : IMap P k w.drew b n m := h
theorem IMap.below {B : Nat} (h : IMap P k w b n m) (hb : Below B w w') (hB : b < B) : IMap P k w' b n m := by
  obtain ⟨D, ⟨es, clock, q1, q2⟩, h2, h3⟩ := h
  exact ⟨D, ⟨es, clock, (hb.block b hB).trans q1, q2⟩, h2, h3⟩
theorem IMap.store (h : IMap P k w b n m) (hk : P.underlying k = some (.int .i64)) (ht : P.underlying t = some (.map k e)) (hn : n < maxLen)
    {x : Int} (hx : (Lit.int .i64 x).wf = true) (v : Value) : ∃ w', (Instr.mapUpdate t (.map (some b)) (.int .i64 x) v).run P w = .ok () w' ∧ IMap P k w' b (n + 1) (fun y => if y = x then some v else m y) ∧ w.grownBy w' (some b) := by
  obtain ⟨D, h1, h2, h3⟩ := h
  obtain ⟨w', hrun, h1', hg⟩ := h1.update (Maps.int_keyed hk) ht hn (Maps.keyOf_int_mk hk hx) (R := RV) (val := v) (d := .held v) (ps := []) rfl
  refine ⟨w', hrun, ⟨_, h1', h2.put _ _, fun y hy => ?_⟩, hg⟩
  by_cases e : y = x
  · subst e
    rw [Maps.atKey_put_same h2 (show WideAt.IsKeyLit (Lit.int .i64 y) from trivial)]
    simp [cellOf]
  · rw [Maps.atKey_put_other (fun e' => e (by injection e'))]
    simp [e, h3 y hy]
end
section
variable {P : Program} (w : World) {ops : Array Oper} {rest : List Oper} {o : Oper} {a : Act} {Q : Exit → Act → World → Prop}
end
end Go.Proofs.YtkmkcbkfakoomaaDoor
