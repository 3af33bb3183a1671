/- Facts and contracts that the claim uses. No condition of its own. -/
import Derived.Test.YtkmkcbkfakoomaaDoorGRingTextsAF
import Derived.ChangeKeysEq
set_option linter.unusedVariables false
set_option linter.unusedSimpArgs false
namespace Go.Proofs.YtkmkcbkfakoomaaDoor
open Go.RowKit
open Go.ChangeMaps (setBlock)
inductive KT where
  | int
  | arr (n : Nat)
  | str
  deriving DecidableEq
def KT.ok : KT → List Int → Prop
  | .int, k => ∃ x, k = [x]
  | .arr n, k => k.length = n
  | .str, k => ∀ c ∈ k, 0 ≤ c ∧ c < 256
def bytesOf (k : List Int) : ByteArray := ⟨(k.map fun c => c.toNat.toUInt8).toArray⟩
def KT.val : KT → List Int → Value
  | .int, k => .int .i64 (k.headD 0)
  | .arr _, k => .agg (k.map (Value.int .i64)).toArray
  | .str, k => .string (bytesOf k)
theorem bytesOf_inj {a b : List Int} (ha : ∀ c ∈ a, 0 ≤ c ∧ c < 256) (hb : ∀ c ∈ b, 0 ≤ c ∧ c < 256) (h : bytesOf a = bytesOf b) : a = b := by
  unfold bytesOf at h
  simp only [ByteArray.mk.injEq] at h
  replace h := congrArg Array.toList h
  simp only at h
  induction a generalizing b with
  | nil => cases b with
    | nil => rfl
    | cons => simp at h
  | cons x a ih => cases b with
    | nil => simp at h
    | cons y b =>
      simp only [List.map_cons, List.cons.injEq] at h
      have hx := ha x (by simp)
      have hy := hb y (by simp)
      have e := congrArg UInt8.toNat h.1
      simp only [Nat.toUInt8_eq, UInt8.toNat_ofNat'] at e
      rw [Nat.mod_eq_of_lt (by omega), Nat.mod_eq_of_lt (by omega)] at e
      rw [show x = y by omega, ih (fun c hc => ha c (by simp [hc])) (fun c hc => hb c (by simp [hc])) h.2]
theorem KT.inj {kk : KT} {a b : List Int} (ha : kk.ok a) (hb : kk.ok b) (h : kk.val a = kk.val b) : a = b := by
  cases kk with
  | int => obtain ⟨x, rfl⟩ := ha; obtain ⟨y, rfl⟩ := hb; simp only [KT.val, List.headD_cons, Value.int.injEq, true_and] at h; rw [h]
  | arr n =>
    simp only [KT.val, Value.agg.injEq] at h
    have h := congrArg Array.toList h
    simp only at h
    have : ∀ (a b : List Int), a.map (Value.int .i64) = b.map (Value.int .i64) → a = b := by
      intro a
      induction a with
      | nil => intro b h; cases b with
        | nil => rfl
        | cons => simp at h
      | cons x a ih => intro b h; cases b with
        | nil => simp at h
        | cons y b =>
          simp only [List.map_cons, List.cons.injEq, Value.int.injEq, true_and] at h
          rw [h.1, ih b h.2]
    exact this a b h
  | str => simp only [KT.val, Value.string.injEq] at h; exact bytesOf_inj ha hb h
def KTy (P : Program) (kt : TypeId) : KT → Prop
  | .int => ∃ q, P.underlying kt = some (.int q)
  | .arr n => ∃ e q i, P.underlying kt = some (.array n e) ∧ P.underlying e = some (.int q) ∧ P.info? e = some i ∧ i.size = 1
  | .str => P.underlying kt = some .string
variable {P : Program} {w : World} {t kt el : TypeId} {b : Nat} {kk : KT}
theorem run_part1 {e : TypeId} {q : IntKind} (he : P.underlying e = some (.int q)) {xs : Array Value} {off : Nat} {v : Value} (hx : xs[off]? = some v) : (part e xs off).run P w = .ok v w :=
  Go.run_part_plain w (by simp [Program.plainKey, he]) hx
theorem run_eqInt {e : TypeId} {q : IntKind} (he : P.underlying e = some (.int q)) (d : Nat) (a b : Int) : (Op.equalIn (d + 1) e (.int .i64 a) (.int .i64 b)).run P w = .ok (a == b) w := by
  simp only [Op.equalIn, Sem.run_bind, run_underlying he, Result.andThen_ok, if_true, Sem.run_pure]
theorem cells1 {e : TypeId} {i : TypeInfo} (hi : P.info? e = some i) (h : i.size = 1) : P.cellsOf e = 1 := by
  unfold Program.cellsOf; rw [hi]; simpa using h
theorem run_eqItems1 {e : TypeId} {q : IntKind} (he : P.underlying e = some (.int q)) (d : Nat) (a b : List Int) : ∀ (is : List Nat), (∀ i ∈ is, i < a.length ∧ i < b.length) →
    (Op.eqItems (d + 1) e 1 (a.map (Value.int .i64)).toArray (b.map (Value.int .i64)).toArray is).run P w = .ok (is.all fun i => a.getD i 0 == b.getD i 0) w
  | [], _ => by simp [Op.eqItems]
  | i :: is, h => by
    have hi := h i (by simp)
    have ih := run_eqItems1 he d a b is (fun j hj => h j (by simp [hj]))
    have h1 : (a.map (Value.int .i64)).toArray[i * 1]? = some (.int .i64 (a.getD i 0)) := by simp [List.getD, hi.1]
    have h2 : (b.map (Value.int .i64)).toArray[i * 1]? = some (.int .i64 (b.getD i 0)) := by simp [List.getD, hi.2]
    simp only [Op.eqItems, Sem.run_bind, run_part1 he h1, run_part1 he h2, Result.andThen_ok, run_eqInt he, List.all_cons]
    by_cases c : a.getD i 0 = b.getD i 0
    · have c1 : (a.getD i 0 == b.getD i 0) = true := by simpa using c
      rw [c1]
      simpa using ih
    · have c1 : (a.getD i 0 == b.getD i 0) = false := by simpa using c
      rw [c1]
      simp
theorem list_eq_all {a b : List Int} {n : Nat} (ha : a.length = n) (hb : b.length = n) : ((List.range n).all fun i => a.getD i 0 == b.getD i 0) = decide (a = b) := by
  by_cases c : a = b
  · subst c; simp
  · rw [decide_eq_false c]
    rw [Bool.eq_false_iff]
    intro h
    rw [List.all_eq_true] at h
    apply c
    apply List.ext_getElem (by omega)
    intro i h1 h2
    have := h i (List.mem_range.2 (by omega))
    simpa [List.getD, h1, h2] using this
theorem run_eqArr {e : TypeId} {q : IntKind} {i : TypeInfo} {n : Nat} (ht : P.underlying kt = some (.array n e)) (he : P.underlying e = some (.int q)) (hi : P.info? e = some i) (h1 : i.size = 1) {a b : List Int} (ha : a.length = n) (hb : b.length = n) :
    (Op.equal kt (.agg (a.map (Value.int .i64)).toArray) (.agg (b.map (Value.int .i64)).toArray)).run P w = .ok (decide (a = b)) w := by
  show (Op.equalIn (9999 + 1) kt _ _).run P w = _
  rw [run_equalIn_array w 9999 _ _ ht hi, cells1 hi h1, show (9999 : Nat) = 9998 + 1 from rfl, run_eqItems1 he 9998 a b (List.range n) (fun j hj => by have := List.mem_range.1 hj; omega), list_eq_all ha hb]
def fndG (x : List Int) : List (List Int × Value × Nat) → Nat → Option (Nat × Value)
  | [], _ => none
  | y :: L, i => if x = y.1 then some (i, y.2.1) else fndG x L (i + 1)
def entG (kk : KT) (L : List (List Int × Value × Nat)) : List MapEntry := L.map fun x => ⟨kk.val x.1, x.2.1, x.2.2⟩
theorem fndG_none {x : List Int} : ∀ {L : List (List Int × Value × Nat)} {i : Nat}, x ∉ L.map (·.1) → fndG x L i = none
  | [], _, _ => rfl
  | y :: L, i, h => by
    simp only [List.map_cons, List.mem_cons, not_or] at h
    rw [fndG, if_neg h.1]
    exact fndG_none h.2
theorem fndG_some {x : List Int} : ∀ {L : List (List Int × Value × Nat)} {i : Nat}, x ∈ L.map (·.1) → ∃ v b, fndG x L i = some (i + (L.map (·.1)).idxOf x, v) ∧ L[(L.map (·.1)).idxOf x]? = some (x, v, b)
  | [], _, h => by simp at h
  | y :: L, i, h => by
    by_cases c : x = y.1
    · refine ⟨y.2.1, y.2.2, ?_, ?_⟩
      · rw [fndG, if_pos c, List.map_cons, c, List.idxOf_cons_self]; rfl
      · rw [List.map_cons, c, List.idxOf_cons_self]; rfl
    · have hm : x ∈ L.map (·.1) := by
        rw [List.map_cons, List.mem_cons] at h
        exact h.resolve_left c
      obtain ⟨v, bn, h1, h2⟩ := fndG_some (i := i + 1) hm
      refine ⟨v, bn, ?_, ?_⟩
      · rw [fndG, if_neg c, h1, List.map_cons, List.idxOf_cons, show (y.1 == x) = false by simpa using fun e => c e.symm]
        simp only [cond_false]
        congr 2
        omega
      · rw [List.map_cons, List.idxOf_cons, show (y.1 == x) = false by simpa using fun e => c e.symm]
        simpa using h2
theorem bytes_beq (a b : ByteArray) : (a == b) = decide (a = b) := by
  by_cases h : a = b
  · rw [decide_eq_true h]; exact (MapKept.bytes_beq a b).2 h
  · rw [decide_eq_false h]
    cases hb : (a == b) with
    | false => rfl
    | true => exact absurd ((MapKept.bytes_beq a b).1 hb) h
theorem run_findKeyG (hk : KTy P kt kk) {x : List Int} (hx : kk.ok x) : ∀ {L : List (List Int × Value × Nat)}, (∀ y ∈ L, kk.ok y.1) → (Instr.findKey kt (kk.val x) (entG kk L)).run P w = .ok (fndG x L 0) w := by
  cases kk with
  | int =>
    obtain ⟨q, hk⟩ := hk
    obtain ⟨x, rfl⟩ := hx
    have key : ∀ (L : List (List Int × Value × Nat)) (i : Nat), (∀ y ∈ L, KT.ok .int y.1) → Instr.findNow (.int q) (.int .i64 x) (entG .int L) i = some (fndG [x] L i) := by
      intro L
      induction L with
      | nil => intro i _; rfl
      | cons y L ih =>
        intro i h
        obtain ⟨z, hz⟩ := h y (by simp)
        show (match Instr.sameNow (.int q) (.int .i64 x) (.int .i64 (y.1.headD 0)) with
          | some true => some (some (i, y.2.1))
          | some false => Instr.findNow (.int q) (.int .i64 x) (entG .int L) (i + 1)
          | none => none) = _
        rw [hz]
        simp only [Instr.sameNow, if_true, List.headD_cons, fndG, hz, List.cons.injEq, and_true]
        by_cases c : x = z
        · rw [if_pos c, show (x == z) = true by simpa using c]
        · rw [if_neg c, show (x == z) = false by simpa using c]
          exact ih (i + 1) (fun y hy => h y (by simp [hy]))
    intro L hL
    simp [Instr.findKey, run_underlying hk, KT.val, key L 0 hL]
  | str =>
    have hk : P.underlying kt = some .string := hk
    have key : ∀ (L : List (List Int × Value × Nat)) (i : Nat), (∀ y ∈ L, KT.ok .str y.1) → Instr.findNow .string (.string (bytesOf x)) (entG .str L) i = some (fndG x L i) := by
      intro L
      induction L with
      | nil => intro i _; rfl
      | cons y L ih =>
        intro i h
        have hz := h y (by simp)
        show (match Instr.sameNow .string (.string (bytesOf x)) (.string (bytesOf y.1)) with
          | some true => some (some (i, y.2.1))
          | some false => Instr.findNow .string (.string (bytesOf x)) (entG .str L) (i + 1)
          | none => none) = _
        simp only [Instr.sameNow, fndG, bytes_beq]
        by_cases c : x = y.1
        · rw [if_pos c, show decide (bytesOf x = bytesOf y.1) = true by simp [c]]
        · rw [if_neg c, show decide (bytesOf x = bytesOf y.1) = false by simpa using fun e => c (bytesOf_inj hx hz e)]
          exact ih (i + 1) (fun y hy => h y (by simp [hy]))
    intro L hL
    simp [Instr.findKey, run_underlying hk, KT.val, key L 0 hL]
  | arr n =>
    obtain ⟨e, q, inf, hk, he, hi, h1⟩ := hk
    have hx : x.length = n := hx
    have key : ∀ (L : List (List Int × Value × Nat)) (i : Nat), (∀ y ∈ L, KT.ok (.arr n) y.1) → (Instr.findAsking kt (.agg (x.map (Value.int .i64)).toArray) (entG (.arr n) L) i).run P w = .ok (fndG x L i) w := by
      intro L
      induction L with
      | nil => intro i _; rfl
      | cons y L ih =>
        intro i h
        have hz : y.1.length = n := h y (by simp)
        show (Instr.findAsking kt _ (⟨.agg (y.1.map (Value.int .i64)).toArray, y.2.1, y.2.2⟩ :: entG (.arr n) L) i).run P w = _
        simp only [Instr.findAsking, Sem.run_bind, run_eqArr hk he hi h1 hx hz, Result.andThen_ok, fndG]
        by_cases c : x = y.1
        · rw [if_pos c]; simp [c]
        · rw [if_neg c]
          simp only [c, decide_false, Bool.false_eq_true, if_false]
          exact ih (i + 1) (fun y hy => h y (by simp [hy]))
    intro L hL
    have hf : Instr.findNow (.array n e) (KT.val (.arr n) x) (entG (.arr n) L) 0 = (match L with | [] => some none | _ => none) := by
      cases L with
      | nil => rfl
      | cons y L => rfl
    simp only [Instr.findKey, Sem.run_bind, run_underlying hk, Result.andThen_ok, hf]
    cases L with
    | nil => rfl
    | cons y L => exact key (y :: L) 0 hL
theorem run_checkKeyG (hk : KTy P kt kk) {x : List Int} (hx : kk.ok x) (em : Bool) : (Instr.checkKey em 10000 kt (kk.val x)).run P w = .ok () w := by
  cases kk with
  | int =>
    obtain ⟨q, hk⟩ := hk
    exact run_checkKey hk em _
  | str =>
    have hk : P.underlying kt = some .string := hk
    rw [show (10000 : Nat) = 9999 + 1 from rfl, Instr.checkKey]
    simp only [Sem.run_bind, run_underlying hk, Result.andThen_ok, Sem.run_pure, KT.val]
  | arr n =>
    obtain ⟨e, q, inf, hk, he, hi, h1⟩ := hk
    have hx : x.length = n := hx
    rw [show (10000 : Nat) = 9999 + 1 from rfl, Instr.checkKey]
    simp only [KT.val, Sem.run_bind, run_underlying hk, Result.andThen_ok]
    simp only [Std.Legacy.Range.forIn_eq_forIn_range', Std.Legacy.Range.size, Nat.sub_zero, Nat.add_one_sub_one, Nat.div_one]
    have : ∀ is : List Nat, (∀ i ∈ is, i < x.length) → (forIn is PUnit.unit fun i _ => do
        let a ← sizeOf e
        let v ← part e (x.map (Value.int .i64)).toArray (i * a)
        Instr.checkKey em 9999 e v
        pure (ForInStep.yield PUnit.unit) : Sem PUnit).run P w = .ok PUnit.unit w := by
      intro is
      induction is with
      | nil => intro _; simp
      | cons i is ih =>
        intro h
        have hiu := h i (by simp)
        have hp : (x.map (Value.int .i64)).toArray[i * 1]? = some (.int .i64 (x.getD i 0)) := by simp [List.getD, hiu]
        have hc : (Instr.checkKey em 9999 e (.int .i64 (x.getD i 0))).run P w = .ok () w := by
          rw [show (9999 : Nat) = 9998 + 1 from rfl, Instr.checkKey]
          simp only [Sem.run_bind, run_underlying he, Result.andThen_ok, Sem.run_pure]
        simp only [List.forIn_cons, Sem.run_bind, Go.run_sizeOf w hi, Result.andThen_ok, cells1 hi h1, run_part1 he hp, hc, Sem.run_pure]
        exact ih (fun j hj => h j (by simp [hj]))
    have h2 := this (List.range' 0 n) (fun i hi => by
      have := (List.mem_range'_1.1 hi).2
      omega)
    rw [h2]
    rfl
def GOk (kk : KT) (es : Array MapEntry) (clk : Nat) (ks : List (List Int)) (us : List Value) : Prop :=
  ∃ L : List (List Int × Value × Nat), es.toList = entG kk L ∧ L.map (·.1) = ks ∧ L.map (·.2.1) = us ∧ ks.Nodup ∧ (∀ k ∈ ks, kk.ok k) ∧ (L.map (·.2.2)).Nodup ∧ ∀ x ∈ L, x.2.2 < clk
theorem GOk.empty (kk : KT) : GOk kk #[] 0 [] [] := ⟨[], rfl, rfl, rfl, List.nodup_nil, fun _ h => (by cases h), List.nodup_nil, fun _ h => (by cases h)⟩
theorem GOk.len {es : Array MapEntry} {clk : Nat} {ks : List (List Int)} {us : List Value} (h : GOk kk es clk ks us) : us.length = ks.length ∧ es.size = ks.length := by
  obtain ⟨L, h1, rfl, rfl, _⟩ := h
  refine ⟨by simp, ?_⟩
  rw [← Array.length_toList, h1]
  simp [entG]
def insK (ks : List (List Int)) (x : List Int) : List (List Int) := if x ∈ ks then ks else ks ++ [x]
def insP {α : Type} (ks : List (List Int)) (ps : List α) (x : List Int) (p : α) : List α := if x ∈ ks then ps.set (ks.idxOf x) p else ps ++ [p]
def getP {α : Type} (ks : List (List Int)) (ps : List α) (x : List Int) (z : α) : α := if x ∈ ks then ps.getD (ks.idxOf x) z else z
variable {es : Array MapEntry} {clk : Nat} {ks : List (List Int)} {us : List Value}
theorem run_lookG (ht : P.underlying t = some (.map kt el)) (hk : KTy P kt kk) {z : Value} (hz : (zeroValue el).run P w = .ok z w) (hb : w.heap[b]? = some (.map es clk)) (hm : GOk kk es clk ks us) {x : List Int} (hx : kk.ok x) (c : Bool) :
    (Instr.lookup t (.map (some b)) (kk.val x) c).run P w = .ok (if c then .tuple #[getP ks us x z, .bool (decide (x ∈ ks))] else getP ks us x z) w := by
  obtain ⟨L, h1, rfl, rfl, h4, h5, h6, h7⟩ := hm
  have hall : ∀ y ∈ L, kk.ok y.1 := fun y hy => h5 _ (List.mem_map.2 ⟨y, hy, rfl⟩)
  simp only [Instr.lookup, Sem.run_bind, run_underlying ht, Result.andThen_ok, MapKept.run_getObj_map hb, Sem.run_pure, run_checkKeyG hk hx, h1, run_findKeyG hk hx hall]
  unfold getP
  by_cases hm : x ∈ L.map (·.1)
  · obtain ⟨v, bn, g1, g2⟩ := fndG_some (i := 0) hm
    rw [g1, if_pos hm]
    have : (L.map (·.2.1)).getD ((L.map (·.1)).idxOf x) z = v := by simp [List.getD, List.getElem?_map, g2]
    simp only [Sem.run_bind, Result.andThen_ok, Sem.run_pure, this, decide_eq_true hm]
  · rw [fndG_none hm, if_neg hm]
    simp only [Sem.run_bind, hz, Result.andThen_ok, Sem.run_pure, decide_eq_false hm]
theorem sameBits_key (kk : KT) (x : List Int) : Instr.sameBits 10000 (kk.val x) (kk.val x) = true := by
  cases kk with
  | int => simp [KT.val, Instr.sameBits]
  | str =>
    simp only [KT.val, Instr.sameBits]
    exact (MapKept.bytes_beq _ _).2 rfl
  | arr n =>
    rw [show (10000 : Nat) = 9999 + 1 from rfl]
    simp only [KT.val, Instr.sameBits, beq_self_eq_true, Bool.true_and, List.all_eq_true]
    rintro ⟨p, q⟩ hpq
    have : p = q ∧ ∃ z : Int, p = .int .i64 z := by
      obtain ⟨i, hi, he⟩ := List.mem_iff_getElem.1 hpq
      simp only [List.getElem_zip, List.getElem_map, Prod.mk.injEq] at he
      exact ⟨he.1.symm.trans he.2, _, he.1.symm⟩
    obtain ⟨rfl, z, rfl⟩ := this
    rw [show (9999 : Nat) = 9998 + 1 from rfl]
    simp [Instr.sameBits]
theorem run_updG (ht : P.underlying t = some (.map kt el)) (hk : KTy P kt kk) (hb : w.heap[b]? = some (.map es clk)) (hm : GOk kk es clk ks us) {x : List Int} (hx : kk.ok x) (v : Value) :
    ∃ es' clk', (Instr.mapUpdate t (.map (some b)) (kk.val x) v).run P w = .ok () (setBlock w b (.map es' clk')) ∧ GOk kk es' clk' (insK ks x) (insP ks us x v) := by
  obtain ⟨L, h1, rfl, rfl, h4, h5, h6, h7⟩ := hm
  have hall : ∀ y ∈ L, kk.ok y.1 := fun y hy => h5 _ (List.mem_map.2 ⟨y, hy, rfl⟩)
  have hset : ∀ o, (setObj b o).run P w = .ok () (setBlock w b o) := fun o => by simp [setObj, Sem.run, hb, setBlock]
  unfold insK insP
  by_cases hm : x ∈ L.map (·.1)
  · obtain ⟨u, bn, g1, g2⟩ := fndG_some (i := 0) hm
    rw [if_pos hm, if_pos hm]
    rw [Nat.zero_add] at g1
    generalize (L.map (·.1)).idxOf x = j at *
    have hlt : j < L.length := (List.getElem?_eq_some_iff.1 g2).1
    have hL : L[j] = (x, u, bn) := (List.getElem?_eq_some_iff.1 g2).2
    have hes : es[j]? = some ⟨kk.val x, u, bn⟩ := by
      rw [← Array.getElem?_toList, h1]; simp [entG, g2]
    have hmod : (es.modify j fun e => { e with key := kk.val x, val := v }).toList = entG kk (L.set j (x, v, bn)) := by
      rw [Array.toList_modify, h1]
      unfold entG
      rw [List.map_set]
      apply List.ext_getElem?
      intro p
      rw [List.getElem?_modify, List.getElem?_set]
      by_cases hp : j = p
      · subst hp
        simp [hlt, hL]
      · simp [hp]
    have m1 : (L.set j (x, v, bn)).map (·.1) = L.map (·.1) := by
      rw [List.map_set]
      apply List.ext_getElem
      · simp
      · intro p hp1 hp2
        rw [List.getElem_set]
        split
        · rename_i hp; subst hp; simp [hL]
        · rfl
    have m3 : (L.set j (x, v, bn)).map (·.2.2) = L.map (·.2.2) := by
      rw [List.map_set]
      apply List.ext_getElem
      · simp
      · intro p hp1 hp2
        rw [List.getElem_set]
        split
        · rename_i hp; subst hp; simp [hL]
        · rfl
    refine ⟨es.modify j fun e => { e with key := kk.val x, val := v }, clk, ?_, L.set j (x, v, bn), hmod, m1, by rw [List.map_set], h4, h5, by rw [m3]; exact h6, ?_⟩
    · simp only [Instr.mapUpdate, Sem.run_bind, run_underlying ht, Result.andThen_ok, MapKept.run_getObj_map hb, run_checkKeyG hk hx, h1, run_findKeyG hk hx hall, g1, hes, Option.map_some, Option.getD_some]
      simp [Instr.keyThatStays, sameBits_key, hset]
    · intro y hy
      rcases List.mem_or_eq_of_mem_set hy with hy | rfl
      · exact h7 y hy
      · have := h7 _ (List.mem_of_getElem? g2); exact this
  · rw [if_neg hm, if_neg hm]
    refine ⟨es.push ⟨kk.val x, v, clk⟩, clk + 1, ?_, L ++ [(x, v, clk)], by simp [h1, entG], by simp, by simp, ?_, ?_, ?_, ?_⟩
    · simp only [Instr.mapUpdate, Sem.run_bind, run_underlying ht, Result.andThen_ok, MapKept.run_getObj_map hb, run_checkKeyG hk hx, h1, run_findKeyG hk hx hall, fndG_none hm, hset]
    · rw [List.nodup_append]
      refine ⟨h4, by simp, fun a ha c hc => ?_⟩
      simp at hc; subst hc
      exact fun e => hm (e ▸ ha)
    · intro k hk
      rcases List.mem_append.1 hk with hk | hk
      · exact h5 k hk
      · simp at hk; subst hk; exact hx
    · rw [List.map_append, List.nodup_append]
      refine ⟨h6, by simp, fun a ha c hc => ?_⟩
      obtain ⟨y, hy, rfl⟩ := List.mem_map.1 ha
      simp at hc; subst hc
      have := h7 y hy
      omega
    · intro y hy
      rcases List.mem_append.1 hy with hy | hy
      · have := h7 y hy; omega
      · simp at hy; subst hy; simp
theorem run_lenG (ht : P.underlying t = some (.map kt el)) (hb : w.heap[b]? = some (.map es clk)) (hm : GOk kk es clk ks us) (ty : TypeId) : (Builtin.len_ #[t] ty #[.map (some b)]).run P w = .ok (.int .i64 (ks.length : Nat)) w := by
  rw [← hm.len.2]
  exact run_lenM ht hb ty
def IGk (es : Array MapEntry) (seen : Array Nat) (pre : List Nat) : Prop := pre.Nodup ∧ (∀ i ∈ pre, i < es.size) ∧ seen.toList = pre.map fun i => (es.toList.map (·.born)).getD i 0
theorem IGk.start (es : Array MapEntry) : IGk es #[] [] := ⟨List.nodup_nil, fun _ h => (by cases h), rfl⟩
theorem GOk.born (hm : GOk kk es clk ks us) : (es.toList.map (·.born)).Nodup ∧ ∀ e ∈ es.toList, e.born < clk := by
  obtain ⟨L, h1, rfl, rfl, h4, h5, h6, h7⟩ := hm
  rw [h1]
  refine ⟨by simpa [entG, Function.comp_def] using h6, fun e he => ?_⟩
  obtain ⟨x, hx, rfl⟩ := List.mem_map.1 he
  exact h7 x hx
theorem GOk.at (hm : GOk kk es clk ks us) {i : Nat} (hi : i < es.size) : ∃ e, es.toList[i]? = some e ∧ e.key = kk.val (ks.getD i []) ∧ e.val = us.getD i undef := by
  obtain ⟨L, h1, rfl, rfl, h4, h5, h6, h7⟩ := hm
  have hl : i < L.length := by rw [← Array.length_toList, h1] at hi; simpa [entG] using hi
  refine ⟨⟨kk.val L[i].1, L[i].2.1, L[i].2.2⟩, by rw [h1]; simp [entG, hl], ?_, ?_⟩
  · simp [List.getD, hl]
  · simp [List.getD, hl]
theorem run_entryG {r : Nat} {seen : Array Nat} {pre : List Nat} {i : Nat} (hr : w.heap[r]? = some (.mapIter (some b) clk seen clk)) (hb : w.heap[b]? = some (.map es clk)) (hm : GOk kk es clk ks us) (hI : IGk es seen (pre ++ [i])) :
    (Instr.entry (.pointer (some ⟨r, 0, none⟩))).run P w = .ok (.tuple #[kk.val (ks.getD i []), us.getD i undef]) w := by
  obtain ⟨i1, i2, i3⟩ := hI
  obtain ⟨e, g1, g2, g3⟩ := hm.at (i2 i (by simp))
  have hs : seen = ((pre.map fun i => (es.toList.map (·.born)).getD i 0).toArray).push e.born := by
    apply Array.ext'
    have hb1 : (es.toList.map (·.born)).getD i 0 = e.born := by simp only [List.getD, List.getElem?_map, g1, Option.map_some, Option.getD_some]
    simp only [i3, List.map_append, List.map_cons, List.map_nil, hb1, Array.toList_push]
  rw [hs] at hr
  have := run_entry_at (P := P) w r b clk _ es clk e hr hb (List.mem_of_getElem? g1) hm.born.1
  rw [this, g2, g3]
end Go.Proofs.YtkmkcbkfakoomaaDoor
