/- Contracts of functions of this seat, and plain facts for them: used by the claims. No condition of its own. -/
import Derived.Test.YthacglggkgmbhaaGGroupOrbitsBD
import Derived.Test.YthacglggkgmbhaaRows
import Derived.Test.YthacglggkgmbhaaGGroupOrbitsAA
import Derived.Test.YthacglggkgmbhaaGGroupOrbitsAS
import Derived.Test.YthacglggkgmbhaaGGroupOrbitsBC
import Derived.Test.YthacglggkgmbhaaGGroupOrbitsAY
import Derived.Deep.QuietTactic
import Derived.BigQuiet
import Derived.Maps.OwnOps
import Derived.Maps.OwnSet
import Derived.WalkKit
set_option linter.unusedVariables false
set_option linter.unusedSimpArgs false
namespace Go.Proofs.Ythacglggkgmbhaa
open Go.RowKit

theorem info3 : (Try.prog.info? 3).map (fun i => (i.zero, i.size, i.bytes)) = some (some (.int .i64 0), 1, 8) := by kernel_rfl
theorem slices_contains (A : Option Addr) (cap : Nat) (xs : List Int) (x : Int) (w : World) (h : IsInts w A cap xs) (k : Nat) (hk : k ≤ xs.length) :
    Calls Try.prog 39 #[.slice A k cap, .int .i64 x] w fun e w' => e = .returned (.bool ((xs.take k).contains x)) ∧ w = w' := by
  have h1 := h.len
  have h2 := h.cap_le
  by_cases hx : xs = []
  · subst hx
    obtain rfl : k = 0 := by simpa using hk
    exact (Try.slices_Contains_int_empty A cap x w).mono fun _ _ ⟨a, b⟩ => ⟨a, b.symm⟩
  · obtain ⟨b, o, rfl, _, hc⟩ := h.row hx
    exact (Try.slices_Contains_int b o k cap xs x w hk (by omega) hc).mono fun _ _ ⟨a, b⟩ => ⟨a, b.symm⟩
theorem idxFrom_mem (x : Int) : ∀ (l : List Int) (i : Nat), x ∈ l → Lib.idxFrom l x i = ((i + l.idxOf x : Nat) : Int)
  | [], _, h => by cases h
  | y :: l, i, h => by
    by_cases e : y = x
    · subst e; simp [Lib.idxFrom]
    · have hx : x ∈ l := by
        rcases List.mem_cons.1 h with h | h
        · exact absurd h.symm e
        · exact h
      rw [List.idxOf_cons]
      simp [Lib.idxFrom, show (y == x) = false by simpa using e]
      rw [idxFrom_mem x l (i + 1) hx]
      omega
theorem index_c (A : Option Addr) (cap : Nat) (xs : List Int) (x : Int) (w : World) (h : IsInts w A cap xs) (hx : x ∈ xs) :
    Calls Try.prog 29 #[.slice A xs.length cap, .int .i64 x] w fun e w' => e = .returned (.int .i64 (xs.idxOf x : Nat)) ∧ w = w' := by
  obtain ⟨b, o, rfl, _, hc⟩ := h.row (by rintro rfl; cases hx)
  have h1 := h.len
  have h2 := h.cap_le
  refine (Try.slices_Index_int b o xs.length cap xs x w (Nat.le_refl _) (by omega) hc).mono fun e w' hh => ?_
  obtain ⟨rfl, rfl⟩ := hh
  refine ⟨ret_int ?_, rfl⟩
  rw [List.take_length]
  unfold Lib.idxOf
  rw [idxFrom_mem x xs 0 hx]
  omega
open Go.Sort in
theorem delete_c (b o cap B : Nat) (xs : List Int) (i : Nat) (w : World) (h : Mine w B (some ⟨b, o, none⟩) cap xs) (hi : i < xs.length) (z y : Int) (hz : z = i) (hy : y = i + 1) :
    Calls Try.prog 30 #[.slice (some ⟨b, o, none⟩) xs.length cap, .int .i64 z, .int .i64 y] w fun e w' => e = .returned (.slice (some ⟨b, o, none⟩) (xs.length - 1) cap) ∧
      Mine w' B (some ⟨b, o, none⟩) cap (xs.eraseIdx i) ∧ w.grownBy w' (some b) := by
  have h1 := h.ints.len
  have h2 := h.ints.cap_le
  have hbd := h.ints.bd
  subst hz
  obtain rfl : y = ((i + 1 : Nat) : Int) := by omega
  refine (Try.slices_Delete_int b o cap i (i + 1) xs w h.holds h1 h2 (by omega) (by omega)).mono fun e w' hh => ?_
  obtain ⟨rfl, q, rfl⟩ := hh
  have e1 : i + 1 - i = 1 := by omega
  have e2 : xs.take i ++ xs.drop (i + 1) = xs.eraseIdx i := (List.eraseIdx_eq_take_drop_succ ..).symm
  rw [e1, e2]
  refine ⟨rfl, h.put (xs.eraseIdx i) [0] (by simp [List.length_eraseIdx_of_lt hi]; omega) (fun j hj => ?_), grown_putRow _ _ _ _ _ _⟩
  rw [getD_lt 0 hj]
  obtain ⟨k, hk, he⟩ := List.mem_iff_getElem.1 ((List.eraseIdx_sublist xs i).subset (List.getElem_mem hj))
  have := hbd k hk
  rw [getD_lt 0 hk, he] at this
  exact this
end Go.Proofs.Ythacglggkgmbhaa

/- Contracts of functions of this seat, and plain facts for them: used by the claims. No condition of its own. -/
set_option linter.unusedVariables false
set_option linter.unusedSimpArgs false
namespace Go.Proofs.Ythacglggkgmbhaa
open Go.RowKit

/-- The fault of the element at k. -/
def pfAt (xs : List Int) (k : Nat) : Int :=
  if xs.getD k 0 < 0 ∨ (xs.length : Int) ≤ xs.getD k 0 then 1 else if xs.getD k 0 ∈ xs.take k then 5 else 0
def permFault (xs : List Int) : Int := if 9 < xs.length then 2 else firstNZ (pfAt xs) xs.length

theorem pfAt_one {xs : List Int} {k : Nat} (hk : k < xs.length) (h : xs[k] < 0 ∨ (xs.length : Int) ≤ xs[k]) : pfAt xs k = 1 := by
  unfold pfAt; rw [getD_lt 0 hk, if_pos h]
theorem pfAt_five {xs : List Int} {k : Nat} (hk : k < xs.length) (h : 0 ≤ xs[k] ∧ xs[k] < (xs.length : Int)) (h5 : xs[k] ∈ xs.take k) : pfAt xs k = 5 := by
  unfold pfAt; rw [getD_lt 0 hk, if_neg (by omega), if_pos h5]
theorem pfAt_zero {xs : List Int} {k : Nat} (hk : k < xs.length) (h : 0 ≤ xs[k] ∧ xs[k] < (xs.length : Int)) (h5 : ¬ xs[k] ∈ xs.take k) : pfAt xs k = 0 := by
  unfold pfAt; rw [getD_lt 0 hk, if_neg (by omega), if_neg h5]
theorem pfAt_more {xs : List Int} {k : Nat} (h : ∀ j, j < k → pfAt xs j = 0) (h0 : pfAt xs k = 0) : ∀ j, j < k + 1 → pfAt xs j = 0 := by
  intro j hj
  by_cases e : j = k
  · subst e; exact h0
  · exact h j (by omega)
theorem permFault_at {xs : List Int} {k : Nat} {c : Int} (h9 : xs.length ≤ 9) (hk : k < xs.length) (h : ∀ j, j < k → pfAt xs j = 0) (hc : pfAt xs k = c) (h0 : c ≠ 0) : permFault xs = c := by
  unfold permFault; rw [if_neg (by omega), firstNZ_at hk h (by rw [hc]; exact h0), hc]
theorem permFault_ok {xs : List Int} (h9 : xs.length ≤ 9) (h : ∀ j, j < xs.length → pfAt xs j = 0) : permFault xs = 0 := by
  unfold permFault; rw [if_neg (by omega), firstNZ_zero h]

set_option maxHeartbeats 400000 in
theorem check_c (A : Option Addr) (cap : Nat) (xs : List Int) (w : World) (h : IsInts w A cap xs) :
    Calls Try.prog 32 #[.slice A xs.length cap] w fun e w' => e = .returned (.int .i64 (permFault xs)) ∧ w = w' := by
  have h1 := h.len
  have h2 := h.cap_le
  go_enter Try.func32, Try.ntmps32
  go_wp2
  · go_ret
    exact ⟨ret_int (by rw [permFault, if_pos (by omega)]), rfl⟩
  · go_loop [3, 4, 10] (fun _ _ i => ∃ k : Nat, k ≤ xs.length ∧ i = .int .i64 k ∧ ∀ j, j < k → pfAt xs j = 0) (fun _ _ i => xs.length - (intOf i).toNat)
    case atStart => exact ⟨0, Nat.zero_le _, rfl, fun j hj => absurd hj (by omega)⟩
    case round =>
      obtain ⟨k, hk, rfl, hz⟩ := hrel
      have HZ := Lib.hid hz
      clear hz
      by_cases hlt : k < xs.length
      · obtain ⟨b, o, rfl, _, hc⟩ := h.row (by intro e; simp [e] at hlt)
        have hck := hc k hlt
        clear hc
        have hbd := h.bd k hlt
        unfold in64 at hbd
        obtain ⟨hb1, hb2⟩ := hbd
        go_wp2_with (go_at_call 39; refine (slices_contains _ _ _ _ _ h k (by omega)).mono ?_; rintro e w' ⟨rfl, rfl⟩)
        · go_ret
          exact ⟨ret_int (permFault_at (by omega) hlt HZ.out (pfAt_one hlt ‹_›) (by omega)).symm, rfl⟩
        · go_ret
          exact ⟨ret_int (permFault_at (by omega) hlt HZ.out (pfAt_five hlt ‹_› ‹_›) (by omega)).symm, rfl⟩
        · go_round
          case rel => exact ⟨k + 1, by omega, by go_num, pfAt_more HZ.out (pfAt_zero hlt ‹_› ‹_›)⟩
          case measure => simp [intOf]; omega
        · go_ret
          exact ⟨ret_int (permFault_at (by omega) hlt HZ.out (pfAt_one hlt (.inl ‹_›)) (by omega)).symm, rfl⟩
      · go_wp2
        go_ret
        obtain rfl : k = xs.length := by omega
        exact ⟨ret_int (permFault_ok (by omega) HZ.out).symm, rfl⟩
end Go.Proofs.Ythacglggkgmbhaa

/- Contracts of functions of this seat, and plain facts for them: used by the claims. No condition of its own. -/
set_option linter.unusedVariables false
set_option linter.unusedSimpArgs false
namespace Go.Proofs.Ythacglggkgmbhaa
open Go.RowKit

end Go.Proofs.Ythacglggkgmbhaa

/- Contracts of functions of this seat, and plain facts for them: used by the claims. No condition of its own. -/
set_option linter.unusedVariables false
set_option linter.unusedSimpArgs false
namespace Go.Proofs.Ythacglggkgmbhaa
open Go.RowKit

end Go.Proofs.Ythacglggkgmbhaa

/-
  Ranks of permutations: the program's way and the reference's. Plain facts: nothing of the program is here.
-/
set_option linter.unusedVariables false
set_option linter.unusedSimpArgs false
namespace Go.Proofs.Ythacglggkgmbhaa

def idRow (n : Nat) : List Int := (List.range n).map (fun i : Nat => (i : Int))
theorem idRow_len (n : Nat) : (idRow n).length = n := by simp [idRow]
theorem idRow_get {n i : Nat} (h : i < n) : (idRow n).getD i 0 = i := by
  rw [getD_lt 0 (by rw [idRow_len]; exact h)]; simp [idRow]

/-- The reference's loop: what is left, and the number so far. -/
def numGo : List Int → List Int → Nat → Nat
  | [], _, n => n
  | x :: xs, rest, n => numGo xs (rest.erase x) (n * rest.length + rest.idxOf x)
def number (xs : List Int) : Nat := numGo xs (idRow xs.length) 0

theorem perm_of_within : ∀ (l m : List Int), l.Nodup → (∀ x ∈ l, x ∈ m) → m.length ≤ l.length → l.Perm m
  | [], m, _, _, hl => by
    have : m = [] := List.eq_nil_of_length_eq_zero (by simpa using hl)
    subst this; exact List.Perm.refl _
  | x :: l, m, hd, hm, hl => by
    have hx := hm x (by simp)
    have hp := List.perm_cons_erase hx
    obtain ⟨hd1, hd2⟩ := List.nodup_cons.1 hd
    refine (List.Perm.cons x (perm_of_within l (m.erase x) hd2 (fun y hy => ?_) ?_)).trans hp.symm
    · refine (List.mem_erase_of_ne ?_).2 (hm y (by simp [hy]))
      rintro rfl; exact hd1 hy
    · rw [List.length_erase_of_mem hx]; simp at hl; omega
theorem mem_idRow {n : Nat} {x : Int} : x ∈ idRow n ↔ 0 ≤ x ∧ x < n := by
  simp only [idRow, List.mem_map, List.mem_range]
  constructor
  · rintro ⟨a, ha, rfl⟩; omega
  · rintro ⟨h1, h2⟩; exact ⟨x.toNat, by omega, by omega⟩
theorem perm_idRow {xs : List Int} (hr : InRange xs) (hd : xs.Nodup) : xs.Perm (idRow xs.length) :=
  perm_of_within _ _ hd (fun x hx => by
    obtain ⟨i, hi, rfl⟩ := List.mem_iff_getElem.1 hx
    have := hr i hi
    rw [getD_lt 0 hi] at this
    exact mem_idRow.2 this) (by rw [idRow_len]; exact Nat.le_refl _)

def smaller (xs : List Int) (k j : Nat) : Nat := (((xs.drop (k + 1)).take j).filter (fun y => y < xs.getD k 0)).length
def rk (xs : List Int) : Nat → Nat
  | 0 => 0
  | k + 1 => rk xs k * (xs.length - k) + smaller xs k (xs.length - (k + 1))
def rank (xs : List Int) : Int := rk xs xs.length

/-! ### Unrank -/
def fac : Nat → Nat
  | 0 => 1
  | n + 1 => (n + 1) * fac n
theorem fac_pos : ∀ n, 0 < fac n
  | 0 => by decide
  | n + 1 => Nat.mul_pos (by omega) (fac_pos n)
theorem fac_le : ∀ {n m : Nat}, n ≤ m → fac n ≤ fac m := by
  intro n m h
  induction h with
  | refl => exact Nat.le_refl _
  | step _ ih => exact Nat.le_trans ih (Nat.le_mul_of_pos_left _ (by omega))
def ur : Nat → List Int → Nat → List Int
  | 0, _, _ => []
  | f + 1, l, r => l.getD (r / fac f) 0 :: ur f (l.eraseIdx (r / fac f)) (r % fac f)
end Go.Proofs.Ythacglggkgmbhaa

/- Contracts of functions of this seat, and plain facts for them: used by the claims. No condition of its own. -/
set_option linter.unusedVariables false
set_option linter.unusedSimpArgs false
namespace Go.Proofs.Ythacglggkgmbhaa
open Go.RowKit

end Go.Proofs.Ythacglggkgmbhaa

/- Contracts of functions of this seat, and plain facts for them: used by the claims. No condition of its own. -/
set_option linter.unusedVariables false
set_option linter.unusedSimpArgs false
namespace Go.Proofs.Ythacglggkgmbhaa
open Go.RowKit

end Go.Proofs.Ythacglggkgmbhaa

/-
  Maps with int keys that the call itself has made: 'IMap': block b is a map that holds m x at the key x. Nothing of the program is here.
-/
set_option linter.unusedVariables false
set_option linter.unusedSimpArgs false
namespace Go.Proofs.Ythacglggkgmbhaa
open Go.RowKit Go.ChangeMaps Go.MapKept
open Go.WideElems (Fit rd rg pl rd_val elemAt)
open Go.Maps (Keyed)

/-- Each element reads as itself. -/
def RV (v : Value) : Option (DataW Value × List MemPlace) := some (.held v, [])
def cellOf : Option Value → DataW Value
  | some v => .held v
  | none => .nil

/-- Block b of w is a map of at most n entries; at the int key x it holds m x. -/
def IMap (P : Program) (k : TypeId) (w : World) (b n : Nat) (m : Int → Option Value) : Prop :=
  ∃ D : DataW Value, w.ownsMap P k RV b n D ∧ Maps.IsMap D ∧ ∀ x, (Lit.int .i64 x).wf = true → D.atKey (.int .i64 x) .nil = cellOf (m x)

section
variable {P : Program} {k t e : TypeId} {w w' : World} {b n : Nat} {m : Int → Option Value}
theorem IMap.made (w : World) (P : Program) (k : TypeId) : IMap P k (w.alloc (.map #[] 0)) w.heap.size 0 (fun _ => none) :=
  ⟨.map [], World.ownsMap_made w P k RV, Maps.isMap_empty, fun x _ => rfl⟩
theorem IMap.congr {m' : Int → Option Value} (h : IMap P k w b n m) (hm : ∀ x, m x = m' x) : IMap P k w b n m' := by
  have : m = m' := funext hm
  subst this; exact h
theorem IMap.mono {n' : Nat} (h : IMap P k w b n m) (hn : n ≤ n') : IMap P k w b n' m := by
  obtain ⟨D, h1, h2, h3⟩ := h
  exact ⟨D, h1.mono hn, h2, h3⟩
theorem IMap.lt (h : IMap P k w b n m) : b < w.heap.size := by obtain ⟨D, h1, _⟩ := h; exact h1.lt
theorem IMap.kept {row : Option Nat} (h : IMap P k w b n m) (hg : w.grownBy w' row) (hne : some b ≠ row) : IMap P k w' b n m := by
  obtain ⟨D, h1, h2, h3⟩ := h
  exact ⟨D, h1.kept hg hne, h2, h3⟩
theorem IMap.alloc (h : IMap P k w b n m) (o : Obj) : IMap P k (w.alloc o) b n m := h.kept (World.grownBy_alloc w o none) (by simp)
theorem IMap.drew (h : IMap P k w b n m) : IMap P k w.drew b n m := h
theorem IMap.below {B : Nat} (h : IMap P k w b n m) (hb : Below B w w') (hB : b < B) : IMap P k w' b n m := by
  obtain ⟨D, ⟨es, clock, q1, q2⟩, h2, h3⟩ := h
  exact ⟨D, ⟨es, clock, (hb.block b hB).trans q1, q2⟩, h2, h3⟩

theorem IMap.look (h : IMap P k w b n m) (c : Bool) (hk : P.underlying k = some (.int .i64)) (ht : P.underlying t = some (.map k e)) {z : Value} (hz : (zeroValue e).run P w = .ok z w)
    {x : Int} (hx : (Lit.int .i64 x).wf = true) : (Instr.lookup t (.map (some b)) (.int .i64 x) c).run P w = .ok (if c then .tuple #[(m x).getD z, .bool (m x).isSome] else (m x).getD z) w := by
  obtain ⟨D, ⟨es, clock, hb, F, _, rfl⟩, h2, h3⟩ := h
  have hx' := h3 x hx
  rcases Maps.fit_look c (Maps.int_keyed hk) ht hz hb F (Maps.keyOf_int_mk hk hx) with ⟨hrun, _, hat⟩ | ⟨e0, y, _, _, hrun, hRv, hat, _⟩
  · rw [hat] at hx'
    have : m x = none := by cases hm : m x <;> simp [hm, cellOf] at hx' ⊢
    rw [this]; exact hrun
  · rw [hat] at hx'
    have e1 : y = (.held e0.val, []) := (Option.some.inj hRv).symm
    subst e1
    have : m x = some e0.val := by
      cases hm : m x with
      | none => simp [hm, cellOf] at hx'
      | some v => simp [hm, cellOf] at hx'; rw [hx']
    rw [this]; exact hrun

theorem IMap.store (h : IMap P k w b n m) (hk : P.underlying k = some (.int .i64)) (ht : P.underlying t = some (.map k e)) (hn : n < maxLen)
    {x : Int} (hx : (Lit.int .i64 x).wf = true) (v : Value) : ∃ w', (Instr.mapUpdate t (.map (some b)) (.int .i64 x) v).run P w = .ok () w' ∧ IMap P k w' b (n + 1) (fun y => if y = x then some v else m y) ∧ w.grownBy w' (some b) := by
  obtain ⟨D, h1, h2, h3⟩ := h
  obtain ⟨w', hrun, h1', hg⟩ := h1.update (Maps.int_keyed hk) ht hn (Maps.keyOf_int_mk hk hx) (R := RV) (val := v) (d := .held v) (ps := []) rfl
  refine ⟨w', hrun, ⟨_, h1', h2.put _ _, fun y hy => ?_⟩, hg⟩
  by_cases e : y = x
  · subst e
    rw [Maps.atKey_put_same h2 (show WideAt.IsKeyLit (Lit.int .i64 y) from trivial)]
    simp [cellOf]
  · rw [Maps.atKey_put_other (fun e' => e (by injection e'))]
    simp [e, h3 y hy]
end

theorem wf_of_in64 {x : Int} (h1 : -9223372036854775808 ≤ x) (h2 : x ≤ 9223372036854775807) : (Lit.int .i64 x).wf = true := by
  simp [Lit.wf, IntKind.min, IntKind.max, IntKind.signed, IntKind.bits]; omega

/-- A set: a map[int]bool whose entries are all true. -/
def ISet (P : Program) (k : TypeId) (w : World) (b n : Nat) (S : Int → Bool) : Prop := IMap P k w b n (fun x => if S x then some (.bool true) else none)

section
variable {P : Program} (w : World) {ops : Array Oper} {rest : List Oper} {o : Oper} {a : Act} {Q : Exit → Act → World → Prop}
/-- 'if seen[x]' -/
theorem wpList_lookup_set (hg : o.guard = none) (mo xo : Operand) (t : TypeId) (hop : o.op = Op.lookup t mo xo false)
    (k e : TypeId) (hk : P.underlying k = some (.int .i64)) (ht : P.underlying t = some (.map k e)) (hz : ∀ w, (zeroValue e).run P w = .ok (.bool false) w) (b n : Nat) (S : Int → Bool)
    (hm : a.eval mo = .map (some b)) (hown : ISet P k w b n S) (x : Int) (hx : a.eval xo = .int .i64 x) (hwf : (Lit.int .i64 x).wf = true)
    (hK : wpList P ops Q rest (a.put o.dst (.bool (S x))) w) :
    wpList P ops Q (o :: rest) a w := by
  refine wpList_plain hg fun K' hK' => ?_
  have hrun := hown.look false hk ht (hz w) hwf
  have e1 : (if S x = true then some (Value.bool true) else none).getD (Value.bool false) = .bool (S x) := by cases S x <;> rfl
  rw [e1] at hrun
  unfold Oper.wp
  simp [execOp, hop, hm, hx, hrun, Result.andThen]
  exact hK' _ _ hK
/-- 'm[x] = v' -/
theorem wpList_update_imap (hg : o.guard = none) (mo xo vo : Operand) (t : TypeId) (hop : o.op = Op.mapUpdate t mo xo vo)
    (k e : TypeId) (hk : P.underlying k = some (.int .i64)) (ht : P.underlying t = some (.map k e)) (b n : Nat) (m : Int → Option Value)
    (hm : a.eval mo = .map (some b)) (hown : IMap P k w b n m) (hn : n < maxLen) (x : Int) (hx : a.eval xo = .int .i64 x) (hwf : (Lit.int .i64 x).wf = true) (v : Value) (hv : a.eval vo = v)
    (hK : ∀ w', IMap P k w' b (n + 1) (fun y => if y = x then some v else m y) → w.grownBy w' (some b) → wpList P ops Q rest (a.put o.dst undef) w') :
    wpList P ops Q (o :: rest) a w := by
  refine wpList_plain hg fun K' hK' => ?_
  obtain ⟨w', hrun, r1, r2⟩ := hown.store hk ht hn hwf v
  unfold Oper.wp
  simp [execOp, hop, hm, hx, hv, hrun, Result.andThen]
  exact hK' _ _ (hK w' r1 r2)
theorem wpList_update_set (hg : o.guard = none) (mo xo vo : Operand) (t : TypeId) (hop : o.op = Op.mapUpdate t mo xo vo)
    (k e : TypeId) (hk : P.underlying k = some (.int .i64)) (ht : P.underlying t = some (.map k e)) (b n : Nat) (S : Int → Bool)
    (hm : a.eval mo = .map (some b)) (hown : ISet P k w b n S) (hn : n < maxLen) (x : Int) (hx : a.eval xo = .int .i64 x) (hwf : (Lit.int .i64 x).wf = true) (hv : a.eval vo = .bool true)
    (hK : ∀ w', ISet P k w' b (n + 1) (fun y => y == x || S y) → w.grownBy w' (some b) → wpList P ops Q rest (a.put o.dst undef) w') :
    wpList P ops Q (o :: rest) a w :=
  wpList_update_imap w hg mo xo vo t hop k e hk ht b n _ hm hown hn x hx hwf _ hv fun w' h1 h2 => hK w' (h1.congr fun y => by by_cases e : y = x <;> simp [e]) h2
end

end Go.Proofs.Ythacglggkgmbhaa
