/-
  Maps with int keys that the call itself has made: 'IMap': block b is a map that holds m x at the key x. Nothing of the program is here.
-/
import Derived.Maps.OwnOps
import Derived.Maps.OwnSet
import Derived.WalkKit
import Derived.Test.YthacglggkgmbhaaGGroupFactorsAI
set_option linter.unusedVariables false
set_option linter.unusedSimpArgs false
namespace Go.Proofs.Ythacglggkgmbhaa
open Go.RowKit Go.ChangeMaps Go.MapKept
open Go.WideElems (Fit rd rg pl rd_val elemAt)
open Go.Maps (Keyed)

/-- Each element reads as itself. -/
def RV (v : Value) : Option (DataW Value × List MemPlace) := some (.held v, [])
def cellOf : Option Value → DataW Value
  | some v => .held v
  | none => .nil

/-- Block b of w is a map of at most n entries; at the int key x it holds m x. -/
def IMap (P : Program) (k : TypeId) (w : World) (b n : Nat) (m : Int → Option Value) : Prop :=
  ∃ D : DataW Value, w.ownsMap P k RV b n D ∧ Maps.IsMap D ∧ ∀ x, (Lit.int .i64 x).wf = true → D.atKey (.int .i64 x) .nil = cellOf (m x)

section
variable {P : Program} {k t e : TypeId} {w w' : World} {b n : Nat} {m : Int → Option Value}
theorem IMap.made (w : World) (P : Program) (k : TypeId) : IMap P k (w.alloc (.map #[] 0)) w.heap.size 0 (fun _ => none) :=
  ⟨.map [], World.ownsMap_made w P k RV, Maps.isMap_empty, fun x _ => rfl⟩
theorem IMap.congr {m' : Int → Option Value} (h : IMap P k w b n m) (hm : ∀ x, m x = m' x) : IMap P k w b n m' := by
  have : m = m' := funext hm
  subst this; exact h
theorem IMap.mono {n' : Nat} (h : IMap P k w b n m) (hn : n ≤ n') : IMap P k w b n' m := by
  obtain ⟨D, h1, h2, h3⟩ := h
  exact ⟨D, h1.mono hn, h2, h3⟩
theorem IMap.lt (h : IMap P k w b n m) : b < w.heap.size := by obtain ⟨D, h1, _⟩ := h; exact h1.lt
theorem IMap.kept {row : Option Nat} (h : IMap P k w b n m) (hg : w.grownBy w' row) (hne : some b ≠ row) : IMap P k w' b n m := by
  obtain ⟨D, h1, h2, h3⟩ := h
  exact ⟨D, h1.kept hg hne, h2, h3⟩
theorem IMap.alloc (h : IMap P k w b n m) (o : Obj) : IMap P k (w.alloc o) b n m := h.kept (World.grownBy_alloc w o none) (by simp)
theorem IMap.drew (h : IMap P k w b n m) : IMap P k w.drew b n m := h
theorem IMap.below {B : Nat} (h : IMap P k w b n m) (hb : Below B w w') (hB : b < B) : IMap P k w' b n m := by
  obtain ⟨D, ⟨es, clock, q1, q2⟩, h2, h3⟩ := h
  exact ⟨D, ⟨es, clock, (hb.block b hB).trans q1, q2⟩, h2, h3⟩

theorem IMap.look (h : IMap P k w b n m) (c : Bool) (hk : P.underlying k = some (.int .i64)) (ht : P.underlying t = some (.map k e)) {z : Value} (hz : (zeroValue e).run P w = .ok z w)
    {x : Int} (hx : (Lit.int .i64 x).wf = true) : (Instr.lookup t (.map (some b)) (.int .i64 x) c).run P w = .ok (if c then .tuple #[(m x).getD z, .bool (m x).isSome] else (m x).getD z) w := by
  obtain ⟨D, ⟨es, clock, hb, F, _, rfl⟩, h2, h3⟩ := h
  have hx' := h3 x hx
  rcases Maps.fit_look c (Maps.int_keyed hk) ht hz hb F (Maps.keyOf_int_mk hk hx) with ⟨hrun, _, hat⟩ | ⟨e0, y, _, _, hrun, hRv, hat, _⟩
  · rw [hat] at hx'
    have : m x = none := by cases hm : m x <;> simp [hm, cellOf] at hx' ⊢
    rw [this]; exact hrun
  · rw [hat] at hx'
    have e1 : y = (.held e0.val, []) := (Option.some.inj hRv).symm
    subst e1
    have : m x = some e0.val := by
      cases hm : m x with
      | none => simp [hm, cellOf] at hx'
      | some v => simp [hm, cellOf] at hx'; rw [hx']
    rw [this]; exact hrun

theorem IMap.store (h : IMap P k w b n m) (hk : P.underlying k = some (.int .i64)) (ht : P.underlying t = some (.map k e)) (hn : n < maxLen)
    {x : Int} (hx : (Lit.int .i64 x).wf = true) (v : Value) : ∃ w', (Instr.mapUpdate t (.map (some b)) (.int .i64 x) v).run P w = .ok () w' ∧ IMap P k w' b (n + 1) (fun y => if y = x then some v else m y) ∧ w.grownBy w' (some b) := by
  obtain ⟨D, h1, h2, h3⟩ := h
  obtain ⟨w', hrun, h1', hg⟩ := h1.update (Maps.int_keyed hk) ht hn (Maps.keyOf_int_mk hk hx) (R := RV) (val := v) (d := .held v) (ps := []) rfl
  refine ⟨w', hrun, ⟨_, h1', h2.put _ _, fun y hy => ?_⟩, hg⟩
  by_cases e : y = x
  · subst e
    rw [Maps.atKey_put_same h2 (show WideAt.IsKeyLit (Lit.int .i64 y) from trivial)]
    simp [cellOf]
  · rw [Maps.atKey_put_other (fun e' => e (by injection e'))]
    simp [e, h3 y hy]
end

theorem wf_of_in64 {x : Int} (h1 : -9223372036854775808 ≤ x) (h2 : x ≤ 9223372036854775807) : (Lit.int .i64 x).wf = true := by
  simp [Lit.wf, IntKind.min, IntKind.max, IntKind.signed, IntKind.bits]; omega

/-- A set: a map[int]bool whose entries are all true. -/
def ISet (P : Program) (k : TypeId) (w : World) (b n : Nat) (S : Int → Bool) : Prop := IMap P k w b n (fun x => if S x then some (.bool true) else none)

section
variable {P : Program} (w : World) {ops : Array Oper} {rest : List Oper} {o : Oper} {a : Act} {Q : Exit → Act → World → Prop}
/-- 'if seen[x]' -/
theorem wpList_lookup_set (hg : o.guard = none) (mo xo : Operand) (t : TypeId) (hop : o.op = Op.lookup t mo xo false)
    (k e : TypeId) (hk : P.underlying k = some (.int .i64)) (ht : P.underlying t = some (.map k e)) (hz : ∀ w, (zeroValue e).run P w = .ok (.bool false) w) (b n : Nat) (S : Int → Bool)
    (hm : a.eval mo = .map (some b)) (hown : ISet P k w b n S) (x : Int) (hx : a.eval xo = .int .i64 x) (hwf : (Lit.int .i64 x).wf = true)
    (hK : wpList P ops Q rest (a.put o.dst (.bool (S x))) w) :
    wpList P ops Q (o :: rest) a w := by
  refine wpList_plain hg fun K' hK' => ?_
  have hrun := hown.look false hk ht (hz w) hwf
  have e1 : (if S x = true then some (Value.bool true) else none).getD (Value.bool false) = .bool (S x) := by cases S x <;> rfl
  rw [e1] at hrun
  unfold Oper.wp
  simp [execOp, hop, hm, hx, hrun, Result.andThen]
  exact hK' _ _ hK
/-- 'm[x] = v' -/
theorem wpList_update_imap (hg : o.guard = none) (mo xo vo : Operand) (t : TypeId) (hop : o.op = Op.mapUpdate t mo xo vo)
    (k e : TypeId) (hk : P.underlying k = some (.int .i64)) (ht : P.underlying t = some (.map k e)) (b n : Nat) (m : Int → Option Value)
    (hm : a.eval mo = .map (some b)) (hown : IMap P k w b n m) (hn : n < maxLen) (x : Int) (hx : a.eval xo = .int .i64 x) (hwf : (Lit.int .i64 x).wf = true) (v : Value) (hv : a.eval vo = v)
    (hK : ∀ w', IMap P k w' b (n + 1) (fun y => if y = x then some v else m y) → w.grownBy w' (some b) → wpList P ops Q rest (a.put o.dst undef) w') :
    wpList P ops Q (o :: rest) a w := by
  refine wpList_plain hg fun K' hK' => ?_
  obtain ⟨w', hrun, r1, r2⟩ := hown.store hk ht hn hwf v
  unfold Oper.wp
  simp [execOp, hop, hm, hx, hv, hrun, Result.andThen]
  exact hK' _ _ (hK w' r1 r2)
theorem wpList_update_set (hg : o.guard = none) (mo xo vo : Operand) (t : TypeId) (hop : o.op = Op.mapUpdate t mo xo vo)
    (k e : TypeId) (hk : P.underlying k = some (.int .i64)) (ht : P.underlying t = some (.map k e)) (b n : Nat) (S : Int → Bool)
    (hm : a.eval mo = .map (some b)) (hown : ISet P k w b n S) (hn : n < maxLen) (x : Int) (hx : a.eval xo = .int .i64 x) (hwf : (Lit.int .i64 x).wf = true) (hv : a.eval vo = .bool true)
    (hK : ∀ w', ISet P k w' b (n + 1) (fun y => y == x || S y) → w.grownBy w' (some b) → wpList P ops Q rest (a.put o.dst undef) w') :
    wpList P ops Q (o :: rest) a w :=
  wpList_update_imap w hg mo xo vo t hop k e hk ht b n _ hm hown hn x hx hwf _ hv fun w' h1 h2 => hK w' (h1.congr fun y => by by_cases e : y = x <;> simp [e]) h2
end

end Go.Proofs.Ythacglggkgmbhaa

/- Contracts of functions of this seat, and plain facts for them: used by the claims. No condition of its own. -/
set_option linter.unusedVariables false
set_option linter.unusedSimpArgs false
namespace Go.Proofs.Ythacglggkgmbhaa
open Go.RowKit

theorem zero_bool (w : World) : (zeroValue 4).run Try.prog w = .ok (.bool false) w := by kernel_rfl

def seenOf (xs : List Int) (k : Nat) (x : Int) : Bool := (xs.take k).contains x

theorem seenOf_mem {xs : List Int} {k : Nat} {x : Int} : seenOf xs k x = true ↔ x ∈ xs.take k := by simp [seenOf]
theorem seenOf_not {xs : List Int} {k : Nat} {x : Int} : seenOf xs k x = false ↔ ¬ x ∈ xs.take k := by simp [seenOf]
theorem seenOf_succ {xs : List Int} {k : Nat} (hk : k < xs.length) (x : Int) : seenOf xs (k + 1) x = (x == xs[k] || seenOf xs k x) := by
  unfold seenOf
  rw [List.take_succ_eq_append_getElem hk, List.contains_eq_any_beq, List.any_append, List.contains_eq_any_beq]
  simp [Bool.or_comm]

set_option maxHeartbeats 400000 in
theorem fault_c (A : Option Addr) (cap : Nat) (xs : List Int) (w : World) (h : IsInts w A cap xs) :
    Calls Try.prog 31 #[.slice A xs.length cap] w fun e w' => e = .returned (.int .i64 (permFault xs)) ∧ Below w.heap.size w w' := by
  have h1 := h.len
  have h2 := h.cap_le
  have hmm := @run_makeMap Try.prog
  go_enter Try.func31, Try.ntmps31
  go_wp2
  · go_ret
    exact ⟨ret_int (by rw [permFault, if_pos (by omega)]), Below.refl _ _⟩
  · go_loopw [5, 12] (fun _ i wr => ∃ k : Nat, k ≤ xs.length ∧ i = .int .i64 k ∧ (∀ j, j < k → pfAt xs j = 0) ∧ ISet Try.prog 3 wr w.heap.size k (seenOf xs k) ∧ Below w.heap.size w wr) (fun _ i _ => xs.length - (intOf i).toNat)
    case atStart => exact ⟨0, Nat.zero_le _, rfl, fun j hj => absurd hj (by omega), (IMap.made w _ _).congr (fun x => by simp [seenOf]), (Below.refl _ _).alloc (Nat.le_refl _) _⟩
    case round =>
      obtain ⟨k, hk, rfl, hz, hs, hb⟩ := hrel
      have HZ := Lib.hid hz
      clear hz
      by_cases hlt : k < xs.length
      · obtain ⟨b, o, rfl, hbl, hc⟩ := h.row (by intro e; simp [e] at hlt)
        have hck := (hb.cell (p := ⟨b, o + k, none⟩) hbl).trans (hc k hlt)
        clear hc
        have hbd := h.bd k hlt
        rw [getD_lt 0 hlt] at hbd hck
        unfold in64 at hbd
        obtain ⟨hb1, hb2⟩ := hbd
        have hwf := wf_of_in64 hb1 hb2
        go_wp2_with (first
          | (at_lookup; refine wpList_lookup_set _ rfl _ _ 81 rfl 3 4 Try.underlying3 Try.underlying81 zero_bool w.heap.size k (seenOf xs k) rfl hs _ rfl hwf ?_)
          | (at_mapUpdate; refine wpList_update_set _ rfl _ _ _ 81 rfl 3 4 Try.underlying3 Try.underlying81 w.heap.size k (seenOf xs k) rfl hs (by unfold maxLen; omega) _ rfl hwf rfl ?_; intro w1 hs1 hg1))
        · go_ret
          exact ⟨ret_int (permFault_at (by omega) hlt HZ.out (pfAt_one hlt ‹_›) (by omega)).symm, hb⟩
        · go_ret
          exact ⟨ret_int (permFault_at (by omega) hlt HZ.out (pfAt_five hlt ‹_› (seenOf_mem.1 ‹_›)) (by omega)).symm, hb⟩
        · have HS := seenOf_succ hlt
          have h0 := pfAt_zero hlt ‹0 ≤ xs[k] ∧ _› (seenOf_not.1 ‹_›)
          go_roundw
          case rel => exact ⟨k + 1, by omega, by go_num, pfAt_more HZ.out h0, hs1.congr (fun x => by rw [HS]), hb.grown hg1 hb.size (fun j hj => by injection hj with hj; omega)⟩
          case measure => simp [intOf]; omega
        · go_ret
          exact ⟨ret_int (permFault_at (by omega) hlt HZ.out (pfAt_one hlt (.inl ‹_›)) (by omega)).symm, hb⟩
      · go_wp2
        go_ret
        obtain rfl : k = xs.length := by omega
        exact ⟨ret_int (permFault_ok (by omega) HZ.out).symm, hb⟩
end Go.Proofs.Ythacglggkgmbhaa
