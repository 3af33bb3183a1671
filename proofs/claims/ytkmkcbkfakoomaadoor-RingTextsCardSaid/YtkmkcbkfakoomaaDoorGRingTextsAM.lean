/- Facts and contracts that the claim uses. No condition of its own. -/
import Derived.Test.YtkmkcbkfakoomaaDoorGRingTextsAL
set_option linter.unusedVariables false
set_option linter.unusedSimpArgs false
namespace Go.Proofs.YtkmkcbkfakoomaaDoor
open Go.RowKit
variable {P : Program} {e : Operand → PV} {w0 : World} {Z0 : Nat → Prop} {ρ : Pl} {h h' : HP} {w : World} {o : Oper} {a : Act} {c : Cls} {v : PV} {K : Act → World → Prop} {Q : Exit → Act → World → Prop}
theorem arr_toList (arr : Array Value) (j : Nat) : arr.getD j undef = arr.toList.getD j undef := by simp [Array.getD, List.getD]; split <;> simp_all
def VA (ρ : Pl) (Z : Nat → Prop) (w : World) (cs : List PV) (arr : Array Value) : Prop := cs.length = arr.size ∧ ∀ i, i < cs.length → V ρ Z w (cs.getD i .junk) (arr.getD i undef)
theorem VA.set {Z : Nat → Prop} {cs : List PV} {arr : Array Value} (h : VA ρ Z w cs arr) {k : Nat} {p : PV} {u : Value} (hv : V ρ Z w p u) : VA ρ Z w (cs.set k p) (arr.setIfInBounds k u) := by
  refine ⟨by simp [h.1], fun i hi => ?_⟩
  have hi' : i < cs.length := by simpa using hi
  by_cases hk : k < cs.length
  · have := put_arr (ρ := ρ) (w := w) (Z := Z) (o := 0) (off := k) (cs := cs) (arr := arr) (p := p) (u := u) (by have := h.1; omega) (fun j hj => by rw [Nat.zero_add]; exact h.2 j hj) hk hv i hi
    simpa using this
  · have h1 := h.1
    rw [List.set_eq_of_length_le (by omega), show arr.setIfInBounds k u = arr from by simp [Array.setIfInBounds, show ¬ k < arr.size by omega]]
    exact h.2 i hi'
theorem VA.fold {Z : Nat → Prop} (off : Nat) : ∀ (us : List Value) (ps : List PV) (k : Nat) (cs : List PV) (arr : Array Value), ps.length = us.length → (∀ i, i < ps.length → V ρ Z w (ps.getD i .junk) (us.getD i undef)) → VA ρ Z w cs arr →
    VA ρ Z w (setsA cs (off + k) ps) ((us.zipIdx k).foldl (fun cs x => cs.setIfInBounds (off + x.2) x.1) arr)
  | [], ps, k, cs, arr, hl, _, h => by
    have : ps = [] := List.length_eq_zero_iff.1 (by simpa using hl)
    subst this
    simpa [setsA] using h
  | u :: us, ps, k, cs, arr, hl, hv, h => by
    cases ps with
    | nil => simp at hl
    | cons p ps =>
      simp only [List.zipIdx_cons, List.foldl_cons, setsA]
      exact VA.fold off us ps (k + 1) _ _ (by simpa using hl) (fun i hi => by have := hv (i + 1) (by simp; omega); simpa [List.getD] using this) (h.set (by simpa [List.getD] using hv 0 (by simp)))
theorem V.cells {Z : Nat → Prop} {p : PV} {u : Value} (ho : p.okp = true) (hv : V ρ Z w p u) : VA ρ Z w p.cells u.cells := by
  by_cases h1 : p.one = true
  · have e1 := V.of_one h1 hv
    have e2 : p.cells = [p] := by cases p <;> simp_all [PV.cells, PV.one]
    rw [e1, e2]
    refine ⟨by simp, fun i hi => ?_⟩
    have : i = 0 := by simpa using hi
    subst this
    simpa [List.getD] using hv
  · cases p with
    | agg cs =>
      obtain ⟨vs, rfl, g1, g2⟩ := hv.agg_inv
      exact ⟨g1, g2⟩
    | _ => simp_all [PV.okp, PV.one]
theorem fill_ok {Z : Nat → Prop} {place place' : Nat → Option (Nat × Nat)} (hpl : ∀ i x, place i = some x → place' i = some x) : ∀ (parts : List (Nat × Operand)) (cs r : List PV) (arr : Array Value),
    fillA place cs (parts.map fun x => (x.1, e x.2)) = some r → (∀ x ∈ parts, V ρ Z w (e x.2) (a.eval x.2)) → VA ρ Z w cs arr →
    ∃ arr', Instr.fill place' arr (parts.map fun x => (x.1, a.eval x.2)) = some arr' ∧ VA ρ Z w r arr'
  | [], cs, r, arr, hf, _, h => by
    simp only [List.map_nil, fillA, Option.some.injEq] at hf
    subst hf
    exact ⟨arr, rfl, h⟩
  | (i, x) :: rest, cs, r, arr, hf, hv, h => by
    simp only [List.map_cons, fillA] at hf
    cases hp : place i with
    | none => simp [hp] at hf
    | some q =>
      obtain ⟨off, size⟩ := q
      simp only [hp] at hf
      split at hf
      · rename_i hc
        simp only [Bool.and_eq_true] at hc
        obtain ⟨⟨c1, c2⟩, c3⟩ := hc
        have c2' := Nat.eq_of_beq_eq_true c2
        have c3' := Nat.le_of_ble_eq_true c3
        have hva : VA ρ Z w (e x).cells (a.eval x).cells := V.cells c1 (hv (i, x) (by simp))
        have hfold := VA.fold (ρ := ρ) (w := w) (Z := Z) off (a.eval x).cells.toList (e x).cells 0 cs arr (by rw [hva.1]; simp) (fun j hj => by have := hva.2 j hj; rwa [arr_toList] at this) h
        obtain ⟨arr', q1, q2⟩ := fill_ok hpl rest _ r _ hf (fun y hy => hv y (by simp [hy])) hfold
        refine ⟨arr', ?_, q2⟩
        simp only [List.map_cons, Instr.fill, hpl _ _ hp]
        have hsz : (a.eval x).cells.size = size := by rw [← hva.1]; exact c2'
        rw [if_neg (by simp [hsz]; have := h.1; omega)]
        rw [← q1]
        congr 1
        rw [← Array.foldl_toList, Array.toList_zipIdx]
      · cases hf
end Go.Proofs.YtkmkcbkfakoomaaDoor
