/-
  Maps with int keys that the call itself has made: 'IMap': block b is a map that holds m x at the key x. Nothing of the program is here.
-/
import Derived.Maps.OwnOps
import Derived.Maps.OwnSet
import Derived.WalkKit
import Derived.Test.YtgjfpmjllpgadaaGGarsideFormsBE
import Derived.Test.YtgjfpmjllpgadaaGGarsideFormsAC
import Derived.Test.YtgjfpmjllpgadaaGGarsideFormsAW
import Derived.Test.YtgjfpmjllpgadaaGGarsideFormsAS
set_option linter.unusedVariables false
set_option linter.unusedSimpArgs false
namespace Go.Proofs.Ytgjfpmjllpgadaa
open Go.RowKit Go.ChangeMaps Go.MapKept
open Go.WideElems (Fit rd rg pl rd_val elemAt)
open Go.Maps (Keyed)

/-- Each element reads as itself. -/
def RV (v : Value) : Option (DataW Value × List MemPlace) := some (.held v, [])
def cellOf : Option Value → DataW Value
  | some v => .held v
  | none => .nil

/-- Block b of w is a map of at most n entries; at the int key x it holds m x. -/
def IMap (P : Program) (k : TypeId) (w : World) (b n : Nat) (m : Int → Option Value) : Prop :=
  ∃ D : DataW Value, w.ownsMap P k RV b n D ∧ Maps.IsMap D ∧ ∀ x, (Lit.int .i64 x).wf = true → D.atKey (.int .i64 x) .nil = cellOf (m x)

section
variable {P : Program} {k t e : TypeId} {w w' : World} {b n : Nat} {m : Int → Option Value}
theorem IMap.made (w : World) (P : Program) (k : TypeId) : IMap P k (w.alloc (.map #[] 0)) w.heap.size 0 (fun _ => none) :=
  ⟨.map [], World.ownsMap_made w P k RV, Maps.isMap_empty, fun x _ => rfl⟩
theorem IMap.congr {m' : Int → Option Value} (h : IMap P k w b n m) (hm : ∀ x, m x = m' x) : IMap P k w b n m' := by
  have : m = m' := funext hm
  subst this; exact h
theorem IMap.mono {n' : Nat} (h : IMap P k w b n m) (hn : n ≤ n') : IMap P k w b n' m := by
  obtain ⟨D, h1, h2, h3⟩ := h
  exact ⟨D, h1.mono hn, h2, h3⟩
theorem IMap.lt (h : IMap P k w b n m) : b < w.heap.size := by obtain ⟨D, h1, _⟩ := h; exact h1.lt
theorem IMap.kept {row : Option Nat} (h : IMap P k w b n m) (hg : w.grownBy w' row) (hne : some b ≠ row) : IMap P k w' b n m := by
  obtain ⟨D, h1, h2, h3⟩ := h
  exact ⟨D, h1.kept hg hne, h2, h3⟩
theorem IMap.alloc (h : IMap P k w b n m) (o : Obj) : IMap P k (w.alloc o) b n m := h.kept (World.grownBy_alloc w o none) (by simp)
theorem IMap.drew (h : IMap P k w b n m) : IMap P k w.drew b n m := h
theorem IMap.below {B : Nat} (h : IMap P k w b n m) (hb : Below B w w') (hB : b < B) : IMap P k w' b n m := by
  obtain ⟨D, ⟨es, clock, q1, q2⟩, h2, h3⟩ := h
  exact ⟨D, ⟨es, clock, (hb.block b hB).trans q1, q2⟩, h2, h3⟩

theorem IMap.look (h : IMap P k w b n m) (c : Bool) (hk : P.underlying k = some (.int .i64)) (ht : P.underlying t = some (.map k e)) {z : Value} (hz : (zeroValue e).run P w = .ok z w)
    {x : Int} (hx : (Lit.int .i64 x).wf = true) : (Instr.lookup t (.map (some b)) (.int .i64 x) c).run P w = .ok (if c then .tuple #[(m x).getD z, .bool (m x).isSome] else (m x).getD z) w := by
  obtain ⟨D, ⟨es, clock, hb, F, _, rfl⟩, h2, h3⟩ := h
  have hx' := h3 x hx
  rcases Maps.fit_look c (Maps.int_keyed hk) ht hz hb F (Maps.keyOf_int_mk hk hx) with ⟨hrun, _, hat⟩ | ⟨e0, y, _, _, hrun, hRv, hat, _⟩
  · rw [hat] at hx'
    have : m x = none := by cases hm : m x <;> simp [hm, cellOf] at hx' ⊢
    rw [this]; exact hrun
  · rw [hat] at hx'
    have e1 : y = (.held e0.val, []) := (Option.some.inj hRv).symm
    subst e1
    have : m x = some e0.val := by
      cases hm : m x with
      | none => simp [hm, cellOf] at hx'
      | some v => simp [hm, cellOf] at hx'; rw [hx']
    rw [this]; exact hrun

theorem IMap.store (h : IMap P k w b n m) (hk : P.underlying k = some (.int .i64)) (ht : P.underlying t = some (.map k e)) (hn : n < maxLen)
    {x : Int} (hx : (Lit.int .i64 x).wf = true) (v : Value) : ∃ w', (Instr.mapUpdate t (.map (some b)) (.int .i64 x) v).run P w = .ok () w' ∧ IMap P k w' b (n + 1) (fun y => if y = x then some v else m y) ∧ w.grownBy w' (some b) := by
  obtain ⟨D, h1, h2, h3⟩ := h
  obtain ⟨w', hrun, h1', hg⟩ := h1.update (Maps.int_keyed hk) ht hn (Maps.keyOf_int_mk hk hx) (R := RV) (val := v) (d := .held v) (ps := []) rfl
  refine ⟨w', hrun, ⟨_, h1', h2.put _ _, fun y hy => ?_⟩, hg⟩
  by_cases e : y = x
  · subst e
    rw [Maps.atKey_put_same h2 (show WideAt.IsKeyLit (Lit.int .i64 y) from trivial)]
    simp [cellOf]
  · rw [Maps.atKey_put_other (fun e' => e (by injection e'))]
    simp [e, h3 y hy]
end

theorem wf_of_in64 {x : Int} (h1 : -9223372036854775808 ≤ x) (h2 : x ≤ 9223372036854775807) : (Lit.int .i64 x).wf = true := by
  simp [Lit.wf, IntKind.min, IntKind.max, IntKind.signed, IntKind.bits]; omega

/-- A set: a map[int]bool whose entries are all true. -/
def ISet (P : Program) (k : TypeId) (w : World) (b n : Nat) (S : Int → Bool) : Prop := IMap P k w b n (fun x => if S x then some (.bool true) else none)

section
variable {P : Program} (w : World) {ops : Array Oper} {rest : List Oper} {o : Oper} {a : Act} {Q : Exit → Act → World → Prop}
/-- 'if seen[x]' -/
theorem wpList_lookup_set (hg : o.guard = none) (mo xo : Operand) (t : TypeId) (hop : o.op = Op.lookup t mo xo false)
    (k e : TypeId) (hk : P.underlying k = some (.int .i64)) (ht : P.underlying t = some (.map k e)) (hz : ∀ w, (zeroValue e).run P w = .ok (.bool false) w) (b n : Nat) (S : Int → Bool)
    (hm : a.eval mo = .map (some b)) (hown : ISet P k w b n S) (x : Int) (hx : a.eval xo = .int .i64 x) (hwf : (Lit.int .i64 x).wf = true)
    (hK : wpList P ops Q rest (a.put o.dst (.bool (S x))) w) :
    wpList P ops Q (o :: rest) a w := by
  refine wpList_plain hg fun K' hK' => ?_
  have hrun := hown.look false hk ht (hz w) hwf
  have e1 : (if S x = true then some (Value.bool true) else none).getD (Value.bool false) = .bool (S x) := by cases S x <;> rfl
  rw [e1] at hrun
  unfold Oper.wp
  simp [execOp, hop, hm, hx, hrun, Result.andThen]
  exact hK' _ _ hK
/-- 'm[x] = v' -/
theorem wpList_update_imap (hg : o.guard = none) (mo xo vo : Operand) (t : TypeId) (hop : o.op = Op.mapUpdate t mo xo vo)
    (k e : TypeId) (hk : P.underlying k = some (.int .i64)) (ht : P.underlying t = some (.map k e)) (b n : Nat) (m : Int → Option Value)
    (hm : a.eval mo = .map (some b)) (hown : IMap P k w b n m) (hn : n < maxLen) (x : Int) (hx : a.eval xo = .int .i64 x) (hwf : (Lit.int .i64 x).wf = true) (v : Value) (hv : a.eval vo = v)
    (hK : ∀ w', IMap P k w' b (n + 1) (fun y => if y = x then some v else m y) → w.grownBy w' (some b) → wpList P ops Q rest (a.put o.dst undef) w') :
    wpList P ops Q (o :: rest) a w := by
  refine wpList_plain hg fun K' hK' => ?_
  obtain ⟨w', hrun, r1, r2⟩ := hown.store hk ht hn hwf v
  unfold Oper.wp
  simp [execOp, hop, hm, hx, hv, hrun, Result.andThen]
  exact hK' _ _ (hK w' r1 r2)
theorem wpList_update_set (hg : o.guard = none) (mo xo vo : Operand) (t : TypeId) (hop : o.op = Op.mapUpdate t mo xo vo)
    (k e : TypeId) (hk : P.underlying k = some (.int .i64)) (ht : P.underlying t = some (.map k e)) (b n : Nat) (S : Int → Bool)
    (hm : a.eval mo = .map (some b)) (hown : ISet P k w b n S) (hn : n < maxLen) (x : Int) (hx : a.eval xo = .int .i64 x) (hwf : (Lit.int .i64 x).wf = true) (hv : a.eval vo = .bool true)
    (hK : ∀ w', ISet P k w' b (n + 1) (fun y => y == x || S y) → w.grownBy w' (some b) → wpList P ops Q rest (a.put o.dst undef) w') :
    wpList P ops Q (o :: rest) a w :=
  wpList_update_imap w hg mo xo vo t hop k e hk ht b n _ hm hown hn x hx hwf _ hv fun w' h1 h2 => hK w' (h1.congr fun y => by by_cases e : y = x <;> simp [e]) h2
end

end Go.Proofs.Ytgjfpmjllpgadaa

/- Contracts of functions of this seat, and plain facts for them: used by the claims. No condition of its own. -/
set_option linter.unusedVariables false
set_option linter.unusedSimpArgs false
namespace Go.Proofs.Ytgjfpmjllpgadaa
open Go.RowKit

theorem zero_bool (w : World) : (zeroValue 4).run Try.prog w = .ok (.bool false) w := by kernel_rfl

def seenOf (xs : List Int) (k : Nat) (x : Int) : Bool := (xs.take k).contains x

theorem seenOf_mem {xs : List Int} {k : Nat} {x : Int} : seenOf xs k x = true ↔ x ∈ xs.take k := by simp [seenOf]
theorem seenOf_not {xs : List Int} {k : Nat} {x : Int} : seenOf xs k x = false ↔ ¬ x ∈ xs.take k := by simp [seenOf]
theorem seenOf_succ {xs : List Int} {k : Nat} (hk : k < xs.length) (x : Int) : seenOf xs (k + 1) x = (x == xs[k] || seenOf xs k x) := by
  unfold seenOf
  rw [List.take_succ_eq_append_getElem hk, List.contains_eq_any_beq, List.any_append, List.contains_eq_any_beq]
  simp [Bool.or_comm]

set_option maxHeartbeats 400000 in
theorem fault_c (A : Option Addr) (cap : Nat) (xs : List Int) (w : World) (h : IsInts w A cap xs) :
    Calls Try.prog 102 #[.slice A xs.length cap] w fun e w' => e = .returned (.int .i64 (permFault xs)) ∧ Below w.heap.size w w' := by
  have h1 := h.len
  have h2 := h.cap_le
  have hmm := @run_makeMap Try.prog
  go_enter Try.func102, Try.ntmps102
  go_wp2
  · go_ret
    exact ⟨ret_int (by rw [permFault, if_pos (by omega)]), Below.refl _ _⟩
  · go_loopw [5, 12] (fun _ i wr => ∃ k : Nat, k ≤ xs.length ∧ i = .int .i64 k ∧ (∀ j, j < k → pfAt xs j = 0) ∧ ISet Try.prog 3 wr w.heap.size k (seenOf xs k) ∧ Below w.heap.size w wr) (fun _ i _ => xs.length - (intOf i).toNat)
    case atStart => exact ⟨0, Nat.zero_le _, rfl, fun j hj => absurd hj (by omega), (IMap.made w _ _).congr (fun x => by simp [seenOf]), (Below.refl _ _).alloc (Nat.le_refl _) _⟩
    case round =>
      obtain ⟨k, hk, rfl, hz, hs, hb⟩ := hrel
      have HZ := Lib.hid hz
      clear hz
      by_cases hlt : k < xs.length
      · obtain ⟨b, o, rfl, hbl, hc⟩ := h.row (by intro e; simp [e] at hlt)
        have hck := (hb.cell (p := ⟨b, o + k, none⟩) hbl).trans (hc k hlt)
        clear hc
        have hbd := h.bd k hlt
        rw [getD_lt 0 hlt] at hbd hck
        unfold in64 at hbd
        obtain ⟨hb1, hb2⟩ := hbd
        have hwf := wf_of_in64 hb1 hb2
        go_wp2_with (first
          | (at_lookup; refine wpList_lookup_set _ rfl _ _ 126 rfl 3 4 Try.underlying3 Try.underlying126 zero_bool w.heap.size k (seenOf xs k) rfl hs _ rfl hwf ?_)
          | (at_mapUpdate; refine wpList_update_set _ rfl _ _ _ 126 rfl 3 4 Try.underlying3 Try.underlying126 w.heap.size k (seenOf xs k) rfl hs (by unfold maxLen; omega) _ rfl hwf rfl ?_; intro w1 hs1 hg1))
        · go_ret
          exact ⟨ret_int (permFault_at (by omega) hlt HZ.out (pfAt_one hlt ‹_›) (by omega)).symm, hb⟩
        · go_ret
          exact ⟨ret_int (permFault_at (by omega) hlt HZ.out (pfAt_five hlt ‹_› (seenOf_mem.1 ‹_›)) (by omega)).symm, hb⟩
        · have HS := seenOf_succ hlt
          have h0 := pfAt_zero hlt ‹0 ≤ xs[k] ∧ _› (seenOf_not.1 ‹_›)
          go_roundw
          case rel => exact ⟨k + 1, by omega, by go_num, pfAt_more HZ.out h0, hs1.congr (fun x => by rw [HS]), hb.grown hg1 hb.size (fun j hj => by injection hj with hj; omega)⟩
          case measure => simp [intOf]; omega
        · go_ret
          exact ⟨ret_int (permFault_at (by omega) hlt HZ.out (pfAt_one hlt (.inl ‹_›)) (by omega)).symm, hb⟩
      · go_wp2
        go_ret
        obtain rfl : k = xs.length := by omega
        exact ⟨ret_int (permFault_ok (by omega) HZ.out).symm, hb⟩
end Go.Proofs.Ytgjfpmjllpgadaa

/- Contracts by lists of functions on permutations. No condition of its own. -/
set_option linter.unusedVariables false
set_option linter.unusedSimpArgs false
namespace Go.Proofs.Ytgjfpmjllpgadaa
open Go.RowKit

theorem fault_s {xs : List Int} (hb : ∀ x ∈ xs, in64 x) : SC Try.prog 102 [pli xs] (pint (permFault xs)) :=
  SC.ofI hb (callable Try.func102 rfl rfl) fun Z w A cap h => (fault_c A cap xs w h).mono fun e w' ⟨h1, h2⟩ => ⟨_, h1, .sc _, h2⟩
set_option maxHeartbeats 1000000 in
set_option maxRecDepth 100000 in
theorem identity_s (n : Nat) (hn : n ≤ 9) : SC Try.prog 66 [pint n] (pli (tabN n id)) := by
  refine SC.go {} tok mixed Try.func66 rfl rfl Try.ntmps66 rfl rfl (by kernel_rfl) ?_
  first | simp only [updS] | simp only [updL, Nat.reduceAdd]
  repeat (first | refine S0 ?_ | refine S1 ?_ | refine S2 ?_ | refine S4 ?_ | refine S5 ?_ | refine S6 ?_ | refine S7 ?_ | refine S8 ?_ | refine S10 ?_ | refine S11 ?_ | refine S13 ?_ | refine S15 ?_ | refine S16 ?_ | refine S19 ?_ | refine S20 ?_ | refine S21 ?_ | refine S22 ?_ | refine S23 ?_ | refine S24 ?_ | refine S25 ?_ | refine S26 ?_ | refine S27 ?_ | refine S65 ?_ | refine S71 ?_)
  refine CW.loopS (fun k : Nat => k ≤ n) (fun k => [(3, .ref 0 0 1 n), (8, pint n), (9, pint k)]) (fun k h => h.blk 0 = some (ints (fillT n k (fun i => ((id i : Nat) : Int))))) (fun k => n - k) 0 ⟨by omega, SLx, by rw [fillT_zero]; exact HBx⟩ ?_
  rintro k t h hk B
  first | simp only [updS] | simp only [updL, Nat.reduceAdd]
  have hl := fillT_len n k (fun i => ((id i : Nat) : Int))
  by_cases hk2 : k < n
  · have hs : (fillT n k (fun i => ((id i : Nat) : Int))).set k (k : Int) = fillT n (k + 1) (fun i => ((id i : Nat) : Int)) := fillT_set hk2
    repeat (first | refine S0 ?_ | refine S1 ?_ | refine S2 ?_ | refine S4 ?_ | refine S5 ?_ | refine S6 ?_ | refine S7 ?_ | refine S8 ?_ | refine S10 ?_ | refine S11 ?_ | refine S13 ?_ | refine S15 ?_ | refine S16 ?_ | refine S19 ?_ | refine S20 ?_ | refine S21 ?_ | refine S22 ?_ | refine S23 ?_ | refine S24 ?_ | refine S25 ?_ | refine S26 ?_ | refine S27 ?_ | refine S65 ?_ | refine S71 ?_)
    rw [hs]
    exact ⟨k + 1, by omega, SLx, (by (try dsimp only); repeat' (first | exact HBx | exact SBx | refine And.intro ?_ ?_)), by omega⟩
  · obtain rfl : k = n := by omega
    rw [fillT_tab] at B
    repeat (first | refine S0 ?_ | refine S1 ?_ | refine S2 ?_ | refine S4 ?_ | refine S5 ?_ | refine S6 ?_ | refine S7 ?_ | refine S8 ?_ | refine S10 ?_ | refine S11 ?_ | refine S13 ?_ | refine S15 ?_ | refine S16 ?_ | refine S19 ?_ | refine S20 ?_ | refine S21 ?_ | refine S22 ?_ | refine S23 ?_ | refine S24 ?_ | refine S25 ?_ | refine S26 ?_ | refine S27 ?_ | refine S65 ?_ | refine S71 ?_)
    exact ⟨.inr rfl, Fz.refI HBx (by first | (simp; done) | (simp; omega)) (by first | rfl | (simp; done))⟩
set_option maxHeartbeats 1000000 in
set_option maxRecDepth 100000 in
theorem row_s (n : Nat) (hn : n ≤ 9) : SC Try.prog 103 [pint n] (pli (tabN n id)) := by
  refine SC.go {} tok mixed Try.func103 rfl rfl Try.ntmps103 rfl rfl (by kernel_rfl) ?_
  first | simp only [updS] | simp only [updL, Nat.reduceAdd]
  repeat (first | refine S0 ?_ | refine S1 ?_ | refine S2 ?_ | refine S4 ?_ | refine S5 ?_ | refine S6 ?_ | refine S7 ?_ | refine S8 ?_ | refine S10 ?_ | refine S11 ?_ | refine S13 ?_ | refine S15 ?_ | refine S16 ?_ | refine S19 ?_ | refine S20 ?_ | refine S21 ?_ | refine S22 ?_ | refine S23 ?_ | refine S24 ?_ | refine S25 ?_ | refine S26 ?_ | refine S27 ?_ | refine S65 ?_ | refine S71 ?_)
  refine CW.loopS (fun k : Nat => k ≤ n) (fun k => [(3, .ref 0 0 1 n), (8, pint n), (9, pint k)]) (fun k h => h.blk 0 = some (ints (fillT n k (fun i => ((id i : Nat) : Int))))) (fun k => n - k) 0 ⟨by omega, SLx, by rw [fillT_zero]; exact HBx⟩ ?_
  rintro k t h hk B
  first | simp only [updS] | simp only [updL, Nat.reduceAdd]
  have hl := fillT_len n k (fun i => ((id i : Nat) : Int))
  by_cases hk2 : k < n
  · have hs : (fillT n k (fun i => ((id i : Nat) : Int))).set k (k : Int) = fillT n (k + 1) (fun i => ((id i : Nat) : Int)) := fillT_set hk2
    repeat (first | refine S0 ?_ | refine S1 ?_ | refine S2 ?_ | refine S4 ?_ | refine S5 ?_ | refine S6 ?_ | refine S7 ?_ | refine S8 ?_ | refine S10 ?_ | refine S11 ?_ | refine S13 ?_ | refine S15 ?_ | refine S16 ?_ | refine S19 ?_ | refine S20 ?_ | refine S21 ?_ | refine S22 ?_ | refine S23 ?_ | refine S24 ?_ | refine S25 ?_ | refine S26 ?_ | refine S27 ?_ | refine S65 ?_ | refine S71 ?_)
    rw [hs]
    exact ⟨k + 1, by omega, SLx, (by (try dsimp only); repeat' (first | exact HBx | exact SBx | refine And.intro ?_ ?_)), by omega⟩
  · obtain rfl : k = n := by omega
    rw [fillT_tab] at B
    repeat (first | refine S0 ?_ | refine S1 ?_ | refine S2 ?_ | refine S4 ?_ | refine S5 ?_ | refine S6 ?_ | refine S7 ?_ | refine S8 ?_ | refine S10 ?_ | refine S11 ?_ | refine S13 ?_ | refine S15 ?_ | refine S16 ?_ | refine S19 ?_ | refine S20 ?_ | refine S21 ?_ | refine S22 ?_ | refine S23 ?_ | refine S24 ?_ | refine S25 ?_ | refine S26 ?_ | refine S27 ?_ | refine S65 ?_ | refine S71 ?_)
    exact ⟨.inr rfl, Fz.refI HBx (by first | (simp; done) | (simp; omega)) (by first | rfl | (simp; done))⟩
theorem index_s {n : Nat} {F G : Nat → Nat} {zs : List Int} (hz : zs = tabN n F) (hF : ∀ i, i < n → F i < n) (hG : ∀ i, i < n → G i < n ∧ F (G i) = i ∧ G (F i) = i) (hn : n ≤ 9) {k : Nat} (hk : k < n) : SC Try.prog 98 [pli zs, pint k] (pint (G k)) := by
  have hmem : (k : Int) ∈ zs := by
    rw [hz]; unfold tabN
    exact List.mem_map.2 ⟨G k, by simpa using (hG k hk).1, by rw [(hG k hk).2.1]⟩
  have hb : ∀ x ∈ zs, in64 x := by
    rw [hz]; unfold tabN
    intro x hx
    obtain ⟨i, hi, rfl⟩ := List.mem_map.1 hx
    have := hF i (by simpa using hi)
    unfold in64; omega
  have hidx : zs.idxOf (k : Int) = G k := by
    have h1 := List.idxOf_lt_length_iff.2 hmem
    have h2 := List.getElem_idxOf h1
    have hlt : zs.idxOf (k : Int) < n := by rw [hz] at h1 ⊢; simpa using h1
    have h3 : zs.getD (zs.idxOf (k : Int)) 0 = (k : Int) := by rw [getD_lt 0 h1]; exact h2
    have h4 : zs.getD (zs.idxOf (k : Int)) 0 = (F (zs.idxOf (k : Int)) : Int) := by
      have h := tabN_get (F := F) hlt
      rw [← hz] at h
      exact h
    have h5 : F (zs.idxOf (k : Int)) = k := by omega
    rw [← (hG _ hlt).2.2, h5]
  refine ⟨callable Try.func98 rfl rfl, fun Z w vs hz hl hv => ?_⟩
  obtain ⟨A, cap, e0, hI⟩ := V.isInts (hv 0 (by simp)) hb
  have e1 := (hv 1 (by simp)).sc_inv
  obtain rfl : vs = [Value.slice A zs.length cap, .int .i64 k].toArray := vs_of (by simpa using hl) (fun i hi => by
    match i, hi with
    | 0, _ => simpa using e0
    | 1, _ => simpa using e1
    | i + 2, h => simp at h; omega)
  refine (index_c A cap zs k w hI hmem).mono fun e w' ⟨h1, h2⟩ => ⟨_, h1, ?_, by subst h2; exact Below.refl _ _⟩
  rw [hidx]; exact .sc _
set_option maxHeartbeats 1000000 in
set_option maxRecDepth 100000 in
theorem rback_s {n : Nat} {F G : Nat → Nat} {zs : List Int} (hz : zs = tabN n F) (hF : ∀ i, i < n → F i < n) (hG : ∀ i, i < n → G i < n ∧ F (G i) = i ∧ G (F i) = i) (hn : n ≤ 9) : SC Try.prog 137 [pli zs] (pli (tabN n G)) := by
  have hl1 : zs.length = n := by rw [hz]; simp
  refine SC.go {} tok mixed Try.func137 rfl rfl Try.ntmps137 rfl rfl (by kernel_rfl) ?_
  first | simp only [updS] | simp only [updL, Nat.reduceAdd]
  repeat (first | refine S0 ?_ | refine S1 ?_ | refine S2 ?_ | refine S4 ?_ | refine S5 ?_ | refine S6 ?_ | refine S7 ?_ | refine S8 ?_ | refine S10 ?_ | refine S11 ?_ | refine S13 ?_ | refine S15 ?_ | refine S16 ?_ | refine S19 ?_ | refine S20 ?_ | refine S21 ?_ | refine S22 ?_ | refine S23 ?_ | refine S24 ?_ | refine S25 ?_ | refine S26 ?_ | refine S27 ?_ | refine S65 ?_ | refine S71 ?_)
  rw [hl1]
  refine CW.loopS (fun k : Nat => k ≤ n) (fun k => [(3, .ref 0 0 1 n), (0, pli zs), (9, pint n), (10, pint k)]) (fun k h => h.blk 0 = some (ints (fillT n k (fun i => ((G i : Nat) : Int))))) (fun k => n - k) 0 ⟨by omega, SLx, by rw [fillT_zero]; exact HBx⟩ ?_
  rintro k t h hk B
  first | simp only [updS] | simp only [updL, Nat.reduceAdd]
  have hl := fillT_len n k (fun i => ((G i : Nat) : Int))
  by_cases hk2 : k < n
  · have hx := index_s hz hF hG hn hk2
    have hs : (fillT n k (fun i => ((G i : Nat) : Int))).set k ((G k : Int)) = fillT n (k + 1) (fun i => ((G i : Nat) : Int)) := by exact fillT_set hk2
    repeat (first | refine S0 ?_ | refine S1 ?_ | refine S2 ?_ | refine S4 ?_ | refine S5 ?_ | refine S6 ?_ | refine S7 ?_ | refine S8 ?_ | refine S10 ?_ | refine S11 ?_ | refine S13 ?_ | refine S15 ?_ | refine S16 ?_ | refine S19 ?_ | refine S20 ?_ | refine S21 ?_ | refine S22 ?_ | refine S23 ?_ | refine S24 ?_ | refine S25 ?_ | refine S26 ?_ | refine S27 ?_ | refine S65 ?_ | refine S71 ?_)
    refine Scall (args := [pli zs, pint k]) hx ?_
    repeat (first | refine S0 ?_ | refine S1 ?_ | refine S2 ?_ | refine S4 ?_ | refine S5 ?_ | refine S6 ?_ | refine S7 ?_ | refine S8 ?_ | refine S10 ?_ | refine S11 ?_ | refine S13 ?_ | refine S15 ?_ | refine S16 ?_ | refine S19 ?_ | refine S20 ?_ | refine S21 ?_ | refine S22 ?_ | refine S23 ?_ | refine S24 ?_ | refine S25 ?_ | refine S26 ?_ | refine S27 ?_ | refine S65 ?_ | refine S71 ?_)
    rw [hs]
    exact ⟨k + 1, by omega, SLx, (by (try dsimp only); repeat' (first | exact HBx | exact SBx | refine And.intro ?_ ?_)), by omega⟩
  · obtain rfl : k = n := by omega
    rw [fillT_tab] at B
    repeat (first | refine S0 ?_ | refine S1 ?_ | refine S2 ?_ | refine S4 ?_ | refine S5 ?_ | refine S6 ?_ | refine S7 ?_ | refine S8 ?_ | refine S10 ?_ | refine S11 ?_ | refine S13 ?_ | refine S15 ?_ | refine S16 ?_ | refine S19 ?_ | refine S20 ?_ | refine S21 ?_ | refine S22 ?_ | refine S23 ?_ | refine S24 ?_ | refine S25 ?_ | refine S26 ?_ | refine S27 ?_ | refine S65 ?_ | refine S71 ?_)
    exact ⟨.inr rfl, Fz.refI HBx (by first | (simp; done) | (simp; omega)) (by first | rfl | (simp; done))⟩
end Go.Proofs.Ytgjfpmjllpgadaa

/- Contracts by lists of functions on permutations: powers. No condition of its own. -/
set_option linter.unusedVariables false
set_option linter.unusedSimpArgs false
namespace Go.Proofs.Ytgjfpmjllpgadaa
open Go.RowKit

theorem permFault_pm {xs : List Int} (h : permFault xs = 0) : xs.length ≤ 9 ∧ Pm xs := by
  obtain ⟨h1, h2, h3⟩ := permFault_range h
  exact ⟨h1, h2, h3⟩
theorem order_bd {xs : List Int} (h : permFault xs = 0) : 1 ≤ orderOf xs ∧ orderOf xs ≤ 2520 := by
  obtain ⟨h9, hr, _⟩ := permFault_range h
  exact ordAt_bd (fun c hc => by have := cyclesOf_lens hr c hc; omega) _ (Nat.le_refl _)
/-- R.Times from the head of its loop on, for whatever map -/
def powT (xs : List Int) (k : Int) : List Int := if 0 ≤ k then tabN xs.length (itr (fn xs) k.toNat) else tabN xs.length (itr (gn xs) (-k).toNat)
end Go.Proofs.Ytgjfpmjllpgadaa
