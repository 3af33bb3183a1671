/- Facts and contracts that the claim uses. No condition of its own. -/
import Derived.Test.YtkmkcbkfakoomaaGRingCoursesBG
import Derived.Test.YtkmkcbkfakoomaaGRingCoursesBD
import Derived.Test.YtkmkcbkfakoomaaGRingCoursesAC
import Derived.Test.YtkmkcbkfakoomaaGRingCoursesBI
import Derived.Maps.OwnOps
import Derived.Maps.OwnSet
import Derived.WalkKit
import Derived.Test.YtkmkcbkfakoomaaGRingCoursesAB
import Derived.Test.YtkmkcbkfakoomaaGRingCoursesAZ
set_option linter.unusedVariables false
set_option linter.unusedSimpArgs false
namespace Go.Proofs.Ytkmkcbkfakoomaa
open Go.RowKit
end Go.Proofs.Ytkmkcbkfakoomaa

/- Facts and contracts that the claim uses. No condition of its own. -/
set_option linter.unusedVariables false
set_option linter.unusedSimpArgs false
namespace Go.Proofs.Ytkmkcbkfakoomaa
open Go.RowKit
end Go.Proofs.Ytkmkcbkfakoomaa

/- Facts and contracts that the claim uses. No condition of its own. -/
set_option linter.unusedVariables false
set_option linter.unusedSimpArgs false
namespace Go.Proofs.Ytkmkcbkfakoomaa
open Go.RowKit Go.ChangeMaps Go.MapKept
open Go.WideElems (Fit rd rg pl rd_val elemAt)
open Go.Maps (Keyed)
def RV (v : Value) : Option (DataW Value × List MemPlace) := some (.held v, [])
def cellOf : Option Value → DataW Value
  | some v => .held v
  | none => .nil
def IMap (P : Program) (k : TypeId) (w : World) (b n : Nat) (m : Int → Option Value) : Prop :=
  ∃ D : DataW Value, w.ownsMap P k RV b n D ∧ Maps.IsMap D ∧ ∀ x, (Lit.int .i64 x).wf = true → D.atKey (.int .i64 x) .nil = cellOf (m x)
section
variable {P : Program} {k t e : TypeId} {w w' : World} {b n : Nat} {m : Int → Option Value}
theorem IMap.congr {m' : Int → Option Value} (h : IMap P k w b n m) (hm : ∀ x, m x = m' x) : IMap P k w b n m' := by
  have : m = m' := funext hm
  subst this; exact h
theorem IMap.mono {n' : Nat} (h : IMap P k w b n m) (hn : n ≤ n') : IMap P k w b n' m := by
  obtain ⟨D, h1, h2, h3⟩ := h
  exact ⟨D, h1.mono hn, h2, h3⟩
theorem IMap.lt (h : IMap P k w b n m) : b < w.heap.size := by obtain ⟨D, h1, _⟩ := h; exact h1.lt
theorem IMap.kept {row : Option Nat} (h : IMap P k w b n m) (hg : w.grownBy w' row) (hne : some b ≠ row) : IMap P k w' b n m := by
  obtain ⟨D, h1, h2, h3⟩ := h
  exact ⟨D, h1.kept hg hne, h2, h3⟩
theorem IMap.alloc (h : IMap P k w b n m) (o : Obj) : IMap P k (w.alloc o) b n m := h.kept (World.grownBy_alloc w o none) (by simp)
theorem IMap.drew (h : IMap P k w b n m) : IMap P k w.drew b n m := h
theorem IMap.below {B : Nat} (h : IMap P k w b n m) (hb : Below B w w') (hB : b < B) : IMap P k w' b n m := by
  obtain ⟨D, ⟨es, clock, q1, q2⟩, h2, h3⟩ := h
  exact ⟨D, ⟨es, clock, (hb.block b hB).trans q1, q2⟩, h2, h3⟩
theorem IMap.store (h : IMap P k w b n m) (hk : P.underlying k = some (.int .i64)) (ht : P.underlying t = some (.map k e)) (hn : n < maxLen)
    {x : Int} (hx : (Lit.int .i64 x).wf = true) (v : Value) : ∃ w', (Instr.mapUpdate t (.map (some b)) (.int .i64 x) v).run P w = .ok () w' ∧ IMap P k w' b (n + 1) (fun y => if y = x then some v else m y) ∧ w.grownBy w' (some b) := by
  obtain ⟨D, h1, h2, h3⟩ := h
  obtain ⟨w', hrun, h1', hg⟩ := h1.update (Maps.int_keyed hk) ht hn (Maps.keyOf_int_mk hk hx) (R := RV) (val := v) (d := .held v) (ps := []) rfl
  refine ⟨w', hrun, ⟨_, h1', h2.put _ _, fun y hy => ?_⟩, hg⟩
  by_cases e : y = x
  · subst e
    rw [Maps.atKey_put_same h2 (show WideAt.IsKeyLit (Lit.int .i64 y) from trivial)]
    simp [cellOf]
  · rw [Maps.atKey_put_other (fun e' => e (by injection e'))]
    simp [e, h3 y hy]
end
section
variable {P : Program} (w : World) {ops : Array Oper} {rest : List Oper} {o : Oper} {a : Act} {Q : Exit → Act → World → Prop}
end
end Go.Proofs.Ytkmkcbkfakoomaa

/- Facts and contracts that the claim uses. No condition of its own. -/
set_option linter.unusedVariables false
set_option linter.unusedSimpArgs false
namespace Go.Proofs.Ytkmkcbkfakoomaa
open Go.RowKit
end Go.Proofs.Ytkmkcbkfakoomaa

/- Facts and contracts that the claim uses. No condition of its own. -/
set_option linter.unusedVariables false
set_option linter.unusedSimpArgs false
namespace Go.Proofs.Ytkmkcbkfakoomaa
open Go.RowKit
theorem vs_of {vs : Array Value} {us : List Value} (hl : vs.size = us.length) (h : ∀ i, i < us.length → vs.getD i undef = us.getD i undef) : vs = us.toArray := by
  apply Array.ext
  · simpa using hl
  · intro i h3 h4
    have := h i (by simpa using h4)
    simp at h4
    simpa [Array.getD, h3, List.getD, h4] using this
theorem SC.ofI {P : Program} {f : FuncId} {xs : List Int} {r : PV} (hb : ∀ x ∈ xs, in64 x) (hc : Callable P f) (h : ∀ (Z : Nat → Prop) (w : World) A cap, IsInts w A cap xs → Calls P f #[.slice A xs.length cap] w fun e w' => ∃ u, e = .returned u ∧ V (fun _ => none) Z w' r u ∧ Below w.heap.size w w') : SC P f [pli xs] r := by
  refine ⟨hc, fun Z w vs hz hl hv => ?_⟩
  obtain ⟨A, cap, e0, hI⟩ := V.isInts (hv 0 (by simp)) hb
  obtain rfl : vs = [Value.slice A xs.length cap].toArray := vs_of (by simpa using hl) (fun i hi => by
    match i, hi with
    | 0, _ => simpa using e0
    | i + 1, h => simp at h)
  exact h Z w A cap hI
theorem V.pair {ρ : Pl} {Z : Nat → Prop} {w : World} {a b : PV} {x y : Value} (h1 : V ρ Z w a x) (h2 : V ρ Z w b y) : V ρ Z w (.tup [a, b]) (.tuple #[x, y]) := .tup _ _ rfl (fun i hi => by
  match i, hi with
  | 0, _ => exact h1
  | 1, _ => exact h2
  | i + 2, h => simp at h; omega)
def fillT (n k : Nat) (F : Nat → Int) : List Int := (List.range n).map fun i => if i < k then F i else 0
theorem fillT_len (n k : Nat) (F : Nat → Int) : (fillT n k F).length = n := by simp [fillT]
theorem fillT_zero (n : Nat) (F : Nat → Int) : fillT n 0 F = List.replicate n 0 := by
  apply List.ext_getElem
  · simp [fillT]
  · intro i h1 h2; simp [fillT]
theorem fillT_set {n k : Nat} {F : Nat → Int} (hk : k < n) : (fillT n k F).set k (F k) = fillT n (k + 1) F := by
  apply List.ext_getElem
  · simp [fillT]
  · intro i h1 h2
    simp only [fillT, List.length_map, List.length_range] at h2
    rw [List.getElem_set]
    by_cases e : k = i
    · subst e; simp [fillT]
    · rw [if_neg e]
      simp only [fillT, List.getElem_map, List.getElem_range]
      by_cases h3 : i < k
      · rw [if_pos h3, if_pos (by omega)]
      · rw [if_neg h3, if_neg (by omega)]
theorem fillT_all (n : Nat) (F : Nat → Int) : fillT n n F = (List.range n).map F := by
  unfold fillT
  exact List.map_congr_left (fun i hi => by rw [if_pos (by simpa using hi)])
theorem fillT_tab (n : Nat) (F : Nat → Nat) : fillT n n (fun i => (F i : Int)) = tabN n F := fillT_all n _
theorem Fz.pair {h : HP} {a b a' b' : PV} (h1 : Fz h a a') (h2 : Fz h b b') : Fz h (.tup [a, b]) (.tup [a', b']) :=
  .tup rfl (fun i hi => by
    match i, hi with
    | 0, _ => exact h1
    | 1, _ => exact h2
    | i + 2, h => simp at h; omega)
theorem Fz.nil {h : HP} : Fz h (.lst true 0 0 []) (pli []) := Fz.nrm (p := .lst true 0 0 []) rfl
end Go.Proofs.Ytkmkcbkfakoomaa
