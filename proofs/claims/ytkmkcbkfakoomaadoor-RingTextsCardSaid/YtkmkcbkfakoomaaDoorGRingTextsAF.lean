/- Facts and contracts that the claim uses. No condition of its own. -/
import Derived.Test.YtkmkcbkfakoomaaDoorGRingTextsAE
import Derived.Maps.RangeRun
import Derived.MapKept
set_option linter.unusedVariables false
set_option linter.unusedSimpArgs false
namespace Go.Proofs.YtkmkcbkfakoomaaDoor
open Go.RowKit
open Go.ChangeMaps (setBlock)
abbrev MF := Int → Option Value
def entL (L : List (Int × Value × Nat)) : List MapEntry := L.map fun x => ⟨.int .i64 x.1, x.2.1, x.2.2⟩
def readL (L : List (Int × Value × Nat)) : MF := fun k => (L.find? (fun x => x.1 == k)).map (·.2.1)
def MOk (es : Array MapEntry) (clk : Nat) (m : MF) : Prop :=
  ∃ L : List (Int × Value × Nat), es.toList = entL L ∧ (L.map (·.1)).Nodup ∧ (L.map (·.2.2)).Nodup ∧ (∀ x ∈ L, x.2.2 < clk) ∧ readL L = m
theorem MOk.empty : MOk #[] 0 (fun _ => none) := ⟨[], rfl, List.nodup_nil, List.nodup_nil, fun _ h => (by cases h), rfl⟩
def fndL (x : Int) : List (Int × Value × Nat) → Nat → Option (Nat × Value)
  | [], _ => none
  | y :: L, i => if y.1 = x then some (i, y.2.1) else fndL x L (i + 1)
theorem fndL_none {x : Int} : ∀ {L : List (Int × Value × Nat)} {i : Nat}, fndL x L i = none → (∀ y ∈ L, y.1 ≠ x) ∧ readL L x = none
  | [], _, _ => ⟨fun _ h => (by cases h), rfl⟩
  | y :: L, i, h => by
    simp only [fndL] at h
    split at h
    · cases h
    · rename_i hy
      obtain ⟨h1, h2⟩ := fndL_none h
      refine ⟨fun z hz => ?_, ?_⟩
      · rcases List.mem_cons.1 hz with rfl | hz
        · exact hy
        · exact h1 z hz
      · unfold readL at *
        rw [List.find?_cons_of_neg (by simpa using hy)]
        exact h2
theorem fndL_some {x : Int} {v : Value} : ∀ {L : List (Int × Value × Nat)} {i j : Nat}, fndL x L i = some (j, v) → ∃ q b, j = i + q ∧ L[q]? = some (x, v, b) ∧ readL L x = some v
  | [], _, _, h => by simp [fndL] at h
  | y :: L, i, j, h => by
    simp only [fndL] at h
    split at h
    · rename_i hy
      simp only [Option.some.injEq, Prod.mk.injEq] at h
      obtain ⟨rfl, rfl⟩ := h
      refine ⟨0, y.2.2, rfl, by subst hy; rfl, ?_⟩
      unfold readL
      rw [List.find?_cons_of_pos (by simpa using hy)]
      rfl
    · rename_i hy
      obtain ⟨q, b, rfl, h2, h3⟩ := fndL_some h
      refine ⟨q + 1, b, by omega, by simpa using h2, ?_⟩
      unfold readL at *
      rw [List.find?_cons_of_neg (by simpa using hy)]
      exact h3
theorem run_findNow {q : IntKind} (x : Int) : ∀ (L : List (Int × Value × Nat)) (i : Nat), Instr.findNow (.int q) (.int .i64 x) (entL L) i = some (fndL x L i)
  | [], _ => rfl
  | y :: L, i => by
    show (match Instr.sameNow (.int q) (.int .i64 x) (.int .i64 y.1) with
      | some true => some (some (i, y.2.1))
      | some false => Instr.findNow (.int q) (.int .i64 x) (entL L) (i + 1)
      | none => none) = _
    simp only [Instr.sameNow, if_true, fndL]
    by_cases h : y.1 = x
    · rw [if_pos h, show (x == y.1) = true by simp [h]]
    · rw [if_neg h, show (x == y.1) = false by simp; omega]
      exact run_findNow x L (i + 1)
variable {P : Program} {w : World} {t kt el : TypeId} {q : IntKind} {b : Nat} {es : Array MapEntry} {clk : Nat} {m : MF}
theorem run_findKey (hk : P.underlying kt = some (.int q)) (x : Int) {L : List (Int × Value × Nat)} : (Instr.findKey kt (.int .i64 x) (entL L)).run P w = .ok (fndL x L 0) w := by
  simp [Instr.findKey, run_underlying hk, run_findNow]
theorem run_checkKey (hk : P.underlying kt = some (.int q)) (bb : Bool) (x : Int) : (Instr.checkKey bb 10000 kt (.int .i64 x)).run P w = .ok () w := by
  rw [show (10000 : Nat) = 9999 + 1 from rfl, Instr.checkKey]
  simp only [Sem.run_bind, run_underlying hk, Result.andThen_ok, Sem.run_pure]
theorem run_look (ht : P.underlying t = some (.map kt el)) (hk : P.underlying kt = some (.int q)) {z : Value} (hz : (zeroValue el).run P w = .ok z w) (hb : w.heap[b]? = some (.map es clk)) (hm : MOk es clk m) (x : Int) (c : Bool) :
    (Instr.lookup t (.map (some b)) (.int .i64 x) c).run P w = .ok (if c then .tuple #[(m x).getD z, .bool (m x).isSome] else (m x).getD z) w := by
  obtain ⟨L, h1, h2, h3, h4, rfl⟩ := hm
  simp only [Instr.lookup, Sem.run_bind, run_underlying ht, Result.andThen_ok, MapKept.run_getObj_map hb, Sem.run_pure, run_checkKey hk, h1, run_findKey hk]
  cases hf : fndL x L 0 with
  | none =>
    rw [(fndL_none hf).2]
    simp only [Sem.run_bind, hz, Result.andThen_ok, Sem.run_pure]
    rfl
  | some r =>
    obtain ⟨j, v⟩ := r
    obtain ⟨_, _, _, _, g⟩ := fndL_some hf
    rw [g]
    simp only [Sem.run_bind, Result.andThen_ok, Sem.run_pure]
    rfl
theorem readL_set {L : List (Int × Value × Nat)} {i : Nat} {x : Int} {v v' : Value} {bn : Nat} (hn : (L.map (·.1)).Nodup) (hi : L[i]? = some (x, v, bn)) : readL (L.set i (x, v', bn)) = fun k => if k = x then some v' else readL L k := by
  funext k
  induction L generalizing i with
  | nil => simp at hi
  | cons y L ih =>
    simp only [List.map_cons, List.nodup_cons] at hn
    cases i with
    | zero =>
      simp only [List.getElem?_cons_zero, Option.some.injEq] at hi
      subst hi
      simp only [List.set_cons_zero]
      unfold readL
      by_cases h : k = x
      · rw [if_pos h, List.find?_cons_of_pos (by simp [h])]; rfl
      · rw [if_neg h, List.find?_cons_of_neg (by simp; omega), List.find?_cons_of_neg (by simp; omega)]
    | succ i =>
      simp only [List.getElem?_cons_succ] at hi
      simp only [List.set_cons_succ]
      have hne : y.1 ≠ x := fun e => hn.1 (by
        rw [e]; exact List.mem_map.2 ⟨_, List.mem_of_getElem? hi, rfl⟩)
      have := ih hn.2 hi
      unfold readL at this ⊢
      by_cases hy : y.1 = k
      · rw [List.find?_cons_of_pos (by simpa using hy), List.find?_cons_of_pos (by simpa using hy), if_neg (by omega)]
      · rw [List.find?_cons_of_neg (by simpa using hy), List.find?_cons_of_neg (by simpa using hy)]
        exact this
theorem readL_snoc {L : List (Int × Value × Nat)} {x : Int} {v : Value} {bn : Nat} (hn : ∀ y ∈ L, y.1 ≠ x) : readL (L ++ [(x, v, bn)]) = fun k => if k = x then some v else readL L k := by
  funext k
  unfold readL
  rw [List.find?_append]
  by_cases h : k = x
  · subst h
    rw [if_pos rfl, List.find?_eq_none.2 (fun y hy => by simpa using hn y hy)]
    simp
  · rw [if_neg h]
    cases hf : L.find? (fun y => y.1 == k) with
    | some z => simp
    | none => simp; omega
theorem run_upd (ht : P.underlying t = some (.map kt el)) (hk : P.underlying kt = some (.int q)) (hb : w.heap[b]? = some (.map es clk)) (hm : MOk es clk m) (x : Int) (v : Value) :
    ∃ es' clk', (Instr.mapUpdate t (.map (some b)) (.int .i64 x) v).run P w = .ok () (setBlock w b (.map es' clk')) ∧ MOk es' clk' (fun k => if k = x then some v else m k) := by
  obtain ⟨L, h1, h2, h3, h4, rfl⟩ := hm
  have hset : ∀ o, (setObj b o).run P w = .ok () (setBlock w b o) := fun o => by simp [setObj, Sem.run, hb, setBlock]
  cases hf : fndL x L 0 with
  | none =>
    obtain ⟨g1, g2⟩ := fndL_none hf
    refine ⟨es.push ⟨.int .i64 x, v, clk⟩, clk + 1, ?_, L ++ [(x, v, clk)], by simp [h1, entL], ?_, ?_, ?_, readL_snoc g1⟩
    · simp only [Instr.mapUpdate, Sem.run_bind, run_underlying ht, Result.andThen_ok, MapKept.run_getObj_map hb, run_checkKey hk, h1, run_findKey hk, hf, hset]
    · rw [List.map_append, List.nodup_append]
      refine ⟨h2, by simp, fun a ha c hc => ?_⟩
      obtain ⟨y, hy, rfl⟩ := List.mem_map.1 ha
      simp at hc; subst hc
      exact g1 y hy
    · rw [List.map_append, List.nodup_append]
      refine ⟨h3, by simp, fun a ha c hc => ?_⟩
      obtain ⟨y, hy, rfl⟩ := List.mem_map.1 ha
      simp at hc; subst hc
      have := h4 y hy
      omega
    · intro y hy
      rcases List.mem_append.1 hy with hy | hy
      · have := h4 y hy; omega
      · simp at hy; subst hy; simp
  | some r =>
    obtain ⟨j, u⟩ := r
    obtain ⟨i, bn, e, g1, g2⟩ := fndL_some hf
    obtain rfl : j = i := by omega
    have hlt : j < L.length := (List.getElem?_eq_some_iff.1 g1).1
    have hL : L[j] = (x, u, bn) := (List.getElem?_eq_some_iff.1 g1).2
    have hes : es[j]? = some ⟨.int .i64 x, u, bn⟩ := by
      rw [← Array.getElem?_toList, h1]; simp [entL, g1]
    have hmod : ∀ y : Value, (es.modify j fun e => { e with key := .int .i64 x, val := y }).toList = entL (L.set j (x, y, bn)) := fun y => by
      rw [Array.toList_modify, h1]
      unfold entL
      rw [List.map_set]
      apply List.ext_getElem?
      intro p
      rw [List.getElem?_modify, List.getElem?_set]
      by_cases hp : j = p
      · subst hp
        simp [hlt, hL]
      · simp [hp]
    refine ⟨es.modify j fun e => { e with key := .int .i64 x, val := v }, clk, ?_, L.set j (x, v, bn), hmod v, ?_, ?_, ?_, readL_set h2 g1⟩
    · simp only [Instr.mapUpdate, Sem.run_bind, run_underlying ht, Result.andThen_ok, MapKept.run_getObj_map hb, run_checkKey hk, h1, run_findKey hk, hf, hes, Option.map_some, Option.getD_some]
      simp [Instr.keyThatStays, Instr.sameBits, hset]
    · have : (L.set j (x, v, bn)).map (·.1) = L.map (·.1) := by
        rw [List.map_set]
        apply List.ext_getElem
        · simp
        · intro p hp1 hp2
          rw [List.getElem_set]
          split
          · rename_i hp; subst hp; simp [hL]
          · rfl
      rw [this]; exact h2
    · have : (L.set j (x, v, bn)).map (·.2.2) = L.map (·.2.2) := by
        rw [List.map_set]
        apply List.ext_getElem
        · simp
        · intro p hp1 hp2
          rw [List.getElem_set]
          split
          · rename_i hp; subst hp; simp [hL]
          · rfl
      rw [this]; exact h3
    · intro y hy
      rcases List.mem_or_eq_of_mem_set hy with hy | rfl
      · exact h4 y hy
      · have := h4 _ (List.mem_of_getElem? g1); exact this
def IOk (es : Array MapEntry) (clk : Nat) (m : MF) (seen : Array Nat) (pre : List (Int × Value)) : Prop :=
  MOk es clk m ∧ ∃ Pf : List MapEntry, (∀ x ∈ Pf, x ∈ es.toList) ∧ seen.toList = Pf.map (·.born) ∧ Pf.map (fun x => (x.key, x.val)) = pre.map (fun x => (Value.int .i64 x.1, x.2)) ∧ (pre.map (·.1)).Nodup
theorem readL_mem {L : List (Int × Value × Nat)} {x : Int × Value × Nat} (h2 : (L.map (·.1)).Nodup) (hx : x ∈ L) : readL L x.1 = some x.2.1 := by
  unfold readL
  induction L with
  | nil => cases hx
  | cons y L ih =>
    simp only [List.map_cons, List.nodup_cons] at h2
    rcases List.mem_cons.1 hx with rfl | hx
    · rw [List.find?_cons_of_pos (by simp)]; rfl
    · rw [List.find?_cons_of_neg (by
        simp only [beq_iff_eq]
        exact fun e => h2.1 (e ▸ List.mem_map.2 ⟨x, hx, rfl⟩))]
      exact ih h2.2 hx
theorem fst_inj {L : List (Int × Value × Nat)} {x1 x2 : Int × Value × Nat} (l2 : (L.map (·.1)).Nodup) (hx1 : x1 ∈ L) (hx2 : x2 ∈ L) (hk2 : x1.1 = x2.1) : x1 = x2 := by
  induction L with
  | nil => cases hx1
  | cons y L ih =>
    simp only [List.map_cons, List.nodup_cons] at l2
    rcases List.mem_cons.1 hx1 with h1 | h1 <;> rcases List.mem_cons.1 hx2 with h2 | h2
    · rw [h1, h2]
    · exact absurd (List.mem_map.2 ⟨x2, h2, by rw [← hk2, h1]⟩) l2.1
    · exact absurd (List.mem_map.2 ⟨x1, h1, by rw [hk2, h2]⟩) l2.1
    · exact ih l2.2 h1 h2
theorem MOk.mem (hm : MOk es clk m) {e : MapEntry} (he : e ∈ es.toList) : ∃ k, e.key = .int .i64 k ∧ m k = some e.val ∧ e.born < clk := by
  obtain ⟨L, h1, h2, h3, h4, rfl⟩ := hm
  rw [h1] at he
  obtain ⟨x, hx, rfl⟩ := List.mem_map.1 he
  refine ⟨x.1, rfl, ?_, h4 x hx⟩
  exact readL_mem h2 hx
theorem MOk.born (hm : MOk es clk m) : (es.toList.map (·.born)).Nodup := by
  obtain ⟨L, h1, h2, h3, h4, rfl⟩ := hm
  rw [h1, show (entL L).map (·.born) = L.map (·.2.2) by simp [entL, Function.comp_def]]
  exact h3
theorem MOk.get (hm : MOk es clk m) {k : Int} {v : Value} (hk : m k = some v) : ∃ e ∈ es.toList, e.key = .int .i64 k ∧ e.val = v := by
  obtain ⟨L, h1, h2, h3, h4, rfl⟩ := hm
  unfold readL at hk
  obtain ⟨x, hx, rfl⟩ := Option.map_eq_some_iff.1 hk
  have hx1 := List.find?_some hx
  have hx2 := List.mem_of_find?_eq_some hx
  simp only [beq_iff_eq] at hx1
  exact ⟨⟨.int .i64 x.1, x.2.1, x.2.2⟩, by rw [h1]; exact List.mem_map.2 ⟨x, hx2, rfl⟩, by rw [hx1], rfl⟩
theorem IOk.start (hm : MOk es clk m) : IOk es clk m #[] [] := ⟨hm, [], fun _ h => (by cases h), rfl, rfl, List.nodup_nil⟩
theorem IOk.mem {seen : Array Nat} {pre : List (Int × Value)} (h : IOk es clk m seen pre) : ∀ x ∈ pre, m x.1 = some x.2 := by
  obtain ⟨hm, Pf, h1, h2, h3, h4⟩ := h
  intro x hx
  have : (Value.int .i64 x.1, x.2) ∈ Pf.map (fun x => (x.key, x.val)) := by rw [h3]; exact List.mem_map.2 ⟨x, hx, rfl⟩
  obtain ⟨e, he, hee⟩ := List.mem_map.1 this
  obtain ⟨k, g1, g2, g3⟩ := hm.mem (h1 e he)
  simp only [Prod.mk.injEq] at hee
  rw [g1] at hee
  obtain ⟨e1, e2⟩ := hee
  cases e1
  rw [g2, e2]
theorem run_iter {ty : TypeId} {r : Nat} {seen : Array Nat} {pre : List (Int × Value)} (hr : w.heap[r]? = some (.mapIter (some b) clk seen clk)) (hb : w.heap[b]? = some (.map es clk)) (h : IOk es clk m seen pre) :
    ((∀ k v, m k = some v → (k, v) ∈ pre) ∧ (Instr.next (.pointer (some ⟨r, 0, none⟩)) false ty).run P w = .ok (.tuple #[.bool false]) w) ∨
    ∃ k v s w1, m k = some v ∧ (∀ x ∈ pre, x.1 ≠ k) ∧ IOk es clk m (seen.push s) (pre ++ [(k, v)]) ∧ (w1 = w ∨ w1 = w.drew) ∧
      (Instr.next (.pointer (some ⟨r, 0, none⟩)) false ty).run P w = .ok (.tuple #[.bool true, .int .i64 k, v]) (setBlock w1 r (.mapIter (some b) clk (seen.push s) clk)) := by
  have hmem := h.mem
  obtain ⟨hm, Pf, h1, h2, h3, h4⟩ := h
  rcases run_next_at (P := P) w ty r b clk clk seen es clk hr hb (fun x hx => by obtain ⟨_, _, _, g⟩ := hm.mem hx; exact g) (Nat.le_refl _) with ⟨h0, hrun⟩ | ⟨e, he, w1, hw, hrun⟩
  · refine .inl ⟨fun k v hk => ?_, hrun⟩
    obtain ⟨e, he, g1, g2⟩ := hm.get hk
    have hs := all_seen es seen h0 e he
    have hs2 : e.born ∈ seen.toList := by simpa using hs
    rw [h2] at hs2
    obtain ⟨e2, he2, hbn⟩ := List.mem_map.1 hs2
    have := born_inj hm.born (h1 e2 he2) he hbn
    subst this
    have : (e2.key, e2.val) ∈ Pf.map (fun x => (x.key, x.val)) := List.mem_map.2 ⟨e2, he2, rfl⟩
    rw [h3] at this
    obtain ⟨x, hx, hxx⟩ := List.mem_map.1 this
    simp only [Prod.mk.injEq] at hxx
    rw [g1, g2] at hxx
    obtain ⟨q1, q2⟩ := hxx
    cases q1
    rw [← q2]
    exact hx
  · obtain ⟨he1, he2⟩ := mem_left he
    obtain ⟨k, g1, g2, g3⟩ := hm.mem he1
    have hfresh : ∀ x ∈ pre, x.1 ≠ k := by
      rintro x hx rfl
      have : (Value.int .i64 x.1, x.2) ∈ Pf.map (fun x => (x.key, x.val)) := by rw [h3]; exact List.mem_map.2 ⟨x, hx, rfl⟩
      obtain ⟨e2, he2', hee⟩ := List.mem_map.1 this
      simp only [Prod.mk.injEq] at hee
      have hkk : e2.key = e.key := by rw [hee.1, g1]
      have e3 : e2 = e := by
        obtain ⟨L, l1, l2, l3, l4, l5⟩ := hm
        have m1 := h1 e2 he2'
        rw [l1] at m1 he1
        obtain ⟨x1, hx1, rfl⟩ := List.mem_map.1 m1
        obtain ⟨x2, hx2, rfl⟩ := List.mem_map.1 he1
        simp only at hkk
        have hk2 : x1.1 = x2.1 := by injection hkk
        have := fst_inj l2 hx1 hx2 hk2
        rw [this]
      subst e3
      have : e2.born ∈ seen.toList := by rw [h2]; exact List.mem_map.2 ⟨e2, he2', rfl⟩
      have : seen.contains e2.born = true := by simpa using this
      rw [this] at he2; cases he2
    refine .inr ⟨k, e.val, e.born, w1, g2, hfresh, ⟨hm, Pf ++ [e], ?_, ?_, ?_, ?_⟩, hw, by rw [hrun, g1]⟩
    · intro x hx
      rcases List.mem_append.1 hx with hx | hx
      · exact h1 x hx
      · simp at hx; subst hx; exact he1
    · simp [h2]
    · simp [h3, g1]
    · rw [List.map_append, List.nodup_append]
      refine ⟨h4, by simp, fun a ha c hc => ?_⟩
      obtain ⟨y, hy, rfl⟩ := List.mem_map.1 ha
      simp at hc; subst hc
      exact hfresh y hy
theorem run_entry {r : Nat} {seen : Array Nat} {pre : List (Int × Value)} {k : Int} {v : Value} (hr : w.heap[r]? = some (.mapIter (some b) clk seen clk)) (hb : w.heap[b]? = some (.map es clk)) (h : IOk es clk m seen (pre ++ [(k, v)])) :
    (Instr.entry (.pointer (some ⟨r, 0, none⟩))).run P w = .ok (.tuple #[.int .i64 k, v]) w := by
  obtain ⟨hm, Pf, h1, h2, h3, h4⟩ := h
  have hne : Pf ≠ [] := fun e => by subst e; simp at h3
  obtain ⟨Pi, e, rfl⟩ : ∃ Pi e, Pf = Pi ++ [e] := ⟨_, _, (List.dropLast_concat_getLast hne).symm⟩
  rw [List.map_append, List.map_append] at h3
  obtain ⟨_, h6⟩ := List.append_inj' h3 rfl
  simp at h6
  have hs : seen = ((Pi.map (·.born)).toArray).push e.born := by
    apply Array.ext'
    rw [h2]; simp
  rw [hs] at hr
  have := run_entry_at (P := P) w r b clk _ es clk e hr hb (h1 e (by simp)) hm.born
  rw [this, h6.1, h6.2]
theorem readL_some {L : List (Int × Value × Nat)} {k : Int} : readL L k ≠ none ↔ k ∈ L.map (·.1) := by
  unfold readL
  constructor
  · intro h
    cases hf : L.find? (fun x => x.1 == k) with
    | none => rw [hf] at h; exact absurd rfl h
    | some x =>
      have h1 := List.find?_some hf
      have h2 := List.mem_of_find?_eq_some hf
      simp only [beq_iff_eq] at h1
      exact List.mem_map.2 ⟨x, h2, h1⟩
  · intro h e
    obtain ⟨x, hx, rfl⟩ := List.mem_map.1 h
    cases hf : L.find? (fun y => y.1 == x.1) with
    | none => rw [List.find?_eq_none] at hf; exact hf x hx (by simp)
    | some y => rw [hf] at e; cases e
theorem MOk.size {ks : List Int} (hm : MOk es clk m) (h1 : ks.Nodup) (h2 : ∀ k : Int, k ∈ ks ↔ m k ≠ none) : es.size = ks.length := by
  obtain ⟨L, l1, l2, _, _, rfl⟩ := hm
  have hp : (L.map (·.1)).Perm ks := (List.perm_ext_iff_of_nodup l2 h1).2 fun k => by rw [h2, readL_some]
  have := hp.length_eq
  rw [← Array.length_toList, l1]
  simpa [entL] using this
theorem run_lenM (ht : P.underlying t = some (.map kt el)) (hb : w.heap[b]? = some (.map es clk)) (ty : TypeId) : (Builtin.len_ #[t] ty #[.map (some b)]).run P w = .ok (.int .i64 es.size) w := by
  simp [Builtin.len_, run_underlying ht, MapKept.run_getObj_map hb, goInt]
end Go.Proofs.YtkmkcbkfakoomaaDoor
