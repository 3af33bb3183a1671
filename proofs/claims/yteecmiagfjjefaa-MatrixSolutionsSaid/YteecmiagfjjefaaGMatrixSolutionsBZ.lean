/-
  Laws for slices of one-cell elements: s[k:], s[:k], s[i:j]; append of one element to a row of the call's own; rows of the call's own read as lists. Nothing of the program is here.
-/
import Derived.Test.YteecmiagfjjefaaGMatrixSolutionsAP
import Derived.Maps.AppendAt
import Derived.Laws.OwnMore
import Derived.Maps.Range
import Derived.Test.YteecmiagfjjefaaGMatrixSolutionsAA
import Derived.Test.YteecmiagfjjefaaGMatrixSolutionsBC
import Derived.Test.YteecmiagfjjefaaGMatrixSolutionsBI
import Derived.WalkKit
import Derived.ChangeSlices
import Derived.Deep.Slices
import Derived.Deep.Matrix
set_option linter.unusedVariables false
set_option linter.unusedSimpArgs false
namespace Go.Proofs.Yteecmiagfjjefaa
open Go.RowKit

/-- The address of s[k:], as the model has it. -/
def cutAt (A : Option Addr) (cap k : Nat) : Option Addr := if cap = k then A else A.map (·.add k)

theorem IsInts.cut {w : World} {A : Option Addr} {cap : Nat} {xs : List Int} (h : IsInts w A cap xs) {k : Nat} (hk : k ≤ xs.length) : IsInts w (cutAt A cap k) (cap - k) (xs.drop k) := by
  have h1 := h.len
  refine ⟨by simp; omega, by have := h.cap_le; omega, fun i hi => ?_, fun hx => ?_⟩
  · have := h.bd (k + i) (by simp at hi; omega)
    simpa [List.getD] using this
  · have hl : k < xs.length := by
      apply Classical.byContradiction; intro hc
      exact hx (List.drop_eq_nil_of_le (by omega))
    obtain ⟨b, o, rfl, hb, hc⟩ := h.row (by intro e; simp [e] at hl)
    refine ⟨b, o + k, ?_, hb, fun i hi => ?_⟩
    · unfold cutAt
      rw [if_neg (by omega)]
      simp only [Option.map_some, Addr.add]
      split
      · rename_i e; subst e; rfl
      · rfl
    · have := hc (k + i) (by simp at hi; omega)
      rw [← Nat.add_assoc] at this
      simpa [List.getD] using this
theorem IsInts.take {w : World} {A : Option Addr} {cap : Nat} {xs : List Int} (h : IsInts w A cap xs) (k : Nat) : IsInts w A cap (xs.take k) := by
  have h1 := h.len
  refine ⟨by simp; omega, h.cap_le, fun i hi => ?_, fun hx => ?_⟩
  · simp at hi
    have := h.bd i (by omega)
    simpa [List.getD, List.getElem?_take, show i < k by omega] using this
  · obtain ⟨b, o, rfl, hb, hc⟩ := h.row (by rintro rfl; simp at hx)
    refine ⟨b, o, rfl, hb, fun i hi => ?_⟩
    simp at hi
    have := hc i (by omega)
    simpa [List.getD, List.getElem?_take, show i < k by omega] using this
theorem IsInts.nil (w : World) (A : Option Addr) (cap : Nat) (h : cap ≤ 9223372036854775807) : IsInts w A cap [] := ⟨by simp, h, fun i hi => by simp at hi, fun h => absurd rfl h⟩

section
variable {P : Program} (w : World) {ops : Array Oper} {rest : List Oper} {o : Oper} {a : Act} {Q : Exit → Act → World → Prop}
end


/-! ### a row of the call's own -/
/-- The facts on an element type, off the program's table. -/
structure Elem1 (P : Program) (t e : TypeId) (z : Value) (bytes : Nat) : Prop where
  ht : P.underlying t = some (.slice e)
  hi : (P.info? e).map (fun i => (i.zero, i.size, i.bytes)) = some (some z, 1, bytes)
  hz : z.cells.size = 1
  hb : bytes ≤ 64

section
variable {P : Program} (w : World) {ops : Array Oper} {rest : List Oper} {o : Oper} {a : Act} {Q : Exit → Act → World → Prop}
end

def lenOf : Value → Nat | .slice _ n _ => n | _ => 0
theorem cell_lt {w : World} {b o : Nat} {v : Value} (h : w.cell? ⟨b, o, none⟩ = some v) : b < w.heap.size := by
  rcases Nat.lt_or_ge b w.heap.size with hlt | hge
  · exact hlt
  · simp [World.cell?, Array.getElem?_eq_none hge] at h
theorem cell_spot {w : World} {a : Addr} {v : Value} (h : w.cell? a = some v) : a.spot = none := by
  unfold World.cell? at h
  split at h
  · split at h
    · cases h
    · rename_i hs; simpa using hs
  · cases h
/-- What the row's own frame hands over of an argument []int. -/
theorem ints_of_row {w : World} {a : Option Addr} {len cap : Nat} {zs : List Int}
    (h : (a = none ∧ len = 0 ∧ cap = 0 ∧ zs = []) ∨ ∃ x, a = some x ∧ len ≤ cap ∧ cap ≤ maxLen ∧ zs.length = cap ∧ (∀ i, i < zs.length → w.cell? (x.add i) = some (.int .i64 (zs.getD i 0))) ∧ ∀ n ∈ zs, (Lit.int .i64 n).wf = true) :
    ∃ xs : List Int, xs.length = len ∧ IsInts w a cap xs := by
  rcases h with ⟨rfl, rfl, rfl, rfl⟩ | ⟨x, rfl, hl, hm, hz, hc, hw⟩
  · exact ⟨[], rfl, IsInts.nil _ _ _ (by omega)⟩
  · have hlen : (zs.take len).length = len := by simp; omega
    unfold maxLen at hm
    refine ⟨zs.take len, hlen, by omega, by omega, fun i hi => ?_, fun hx => ?_⟩
    · have hi' : i < zs.length := by simp at hi; omega
      have := hw _ (List.getElem_mem hi')
      rw [getD_lt 0 hi, List.getElem_take]
      simp [Lit.wf, IntKind.min, IntKind.max, IntKind.signed, IntKind.bits] at this
      exact ⟨by omega, by omega⟩
    · have h0 : 0 < zs.length := by
        rcases Nat.eq_zero_or_pos zs.length with e | e
        · exact absurd (by have := List.eq_nil_of_length_eq_zero e; subst this; exact List.take_nil) hx
        · exact e
      have hs := cell_spot (hc 0 h0)
      have hc0 := hc 0 h0
      obtain ⟨b, o, sp⟩ := x
      simp [Addr.add] at hs
      subst hs
      refine ⟨b, o, rfl, cell_lt (by simpa [Addr.add] using hc0), fun i hi => ?_⟩
      have hi' : i < zs.length := by simp at hi; omega
      have := hc i hi'
      rw [getD_lt 0 hi, List.getElem_take, ← getD_lt 0 hi']
      by_cases e : i = 0
      · subst e; simpa [Addr.add] using this
      · simpa [Addr.add, e] using this

end Go.Proofs.Yteecmiagfjjefaa

/- What the row's own frame hands over of an argument that is a slice of slices of ints. Nothing of the program is here. -/
set_option linter.unusedVariables false
set_option linter.unusedSimpArgs false
namespace Go.Proofs.Yteecmiagfjjefaa
open Go.RowKit Go.Deep

def IsRowss (w : World) (a : Option Addr) (len cap : Nat) (A : Nat → Option Addr) (L C : Nat → Nat) (Z : Nat → List Int) : Prop :=
  (a = none ∧ len = 0 ∧ cap = 0) ∨ ∃ x, a = some x ∧ len ≤ cap ∧ cap ≤ maxLen ∧ ∀ r, r < cap → w.cell? (x.add r) = some (.slice (A r) (L r) (C r)) ∧
    ((A r = none ∧ L r = 0 ∧ C r = 0 ∧ Z r = []) ∨ ∃ y, A r = some y ∧ L r ≤ C r ∧ C r ≤ maxLen ∧ (Z r).length = C r ∧ (∀ i, i < (Z r).length → w.cell? (y.add i) = some (.int .i64 ((Z r).getD i 0))) ∧ ∀ n ∈ Z r, (Lit.int .i64 n).wf = true)
theorem open_rowss {H : Type} {enc : TypeId × Value → H} {P : Program} {w : World} {base : Nat} {held : Bool} {t e q : TypeId} {fuel : Nat} {a : Option Addr} {len cap : Nat} {x : DataW H × List MemPlace}
    (ht : P.underlying t = some (.slice e)) (he : P.underlying e = some (.slice q)) (hq : P.underlying q = some (.int .i64)) (ce : P.cellsOf e = 1) (cq : P.cellsOf q = 1)
    (h : DataW.trod enc P w base (fun _ => true) held fuel t [.slice a len cap] = some x) : ∃ A L C Z, IsRowss w a len cap A L C Z := by
  rcases open_int_rows ht he hq ce cq h with ⟨h0, _⟩ | ⟨a', len', cap', A, L, C, Z, h1, hb, hl, hm, _, hx⟩
  · simp only [List.cons.injEq, Value.slice.injEq, and_true] at h0
    obtain ⟨rfl, rfl, rfl⟩ := h0
    exact ⟨fun _ => none, fun _ => 0, fun _ => 0, fun _ => [], .inl ⟨rfl, rfl, rfl⟩⟩
  simp only [List.cons.injEq, Value.slice.injEq, and_true] at h1
  obtain ⟨rfl, rfl, rfl⟩ := h1
  refine ⟨A, L, C, Z, .inr ⟨a', rfl, hl, hm, fun r hr => ?_⟩⟩
  obtain ⟨k1, k2, k3, k4, k5, k6, k7⟩ := hx r hr
  refine ⟨k1, ?_⟩
  cases hA : A r with
  | none =>
    have := k6 hA
    exact .inl ⟨rfl, by omega, this, List.eq_nil_of_length_eq_zero (by omega)⟩
  | some y => exact .inr ⟨y, rfl, k2, k3, k4, fun i hi => (k7 y hA).2 i (by omega), k5⟩
/-- the argument as a list of lists -/
theorem lls_of_row {w : World} {a : Option Addr} {len cap : Nat} {A : Nat → Option Addr} {L C : Nat → Nat} {Z : Nat → List Int} (h : IsRowss w a len cap A L C Z) :
    ∃ l : List (List Int), l.length = len ∧ (∀ r ∈ l, ∀ i, i < r.length → in64 (r.getD i 0)) ∧ V (fun _ => none) (fun _ => False) w (.lst false 1 l.length (l.map pli)) (.slice a len cap) := by
  rcases h with ⟨rfl, rfl, rfl⟩ | ⟨x, rfl, hl, hm, hc⟩
  · exact ⟨[], rfl, (fun r hr => by simp at hr), .lst _ _ _ _ _ _ (fun _ => undef) (Nat.le_refl _) (fun h => by cases h) (Nat.zero_le _) rfl (fun h => absurd rfl h) (fun i hi => by simp at hi)⟩
  · have each : ∀ r, r < cap → ∃ xs : List Int, xs.length = L r ∧ IsInts w (A r) (C r) xs := fun r hr => ints_of_row (hc r hr).2
    obtain ⟨X, hX⟩ := choose_lt each
    have hlen : ((List.range len).map X).length = len := by simp
    refine ⟨(List.range len).map X, hlen, fun r hr i hi => ?_, ?_⟩
    · obtain ⟨k, hk, rfl⟩ := List.mem_map.1 hr
      exact (hX k (by have := List.mem_range.1 hk; omega)).2.bd i hi
    · rw [hlen]
      by_cases h0 : len = 0
      · subst h0
        exact .lst _ _ _ _ _ _ (fun _ => undef) hl (fun h => by cases h) hm rfl (fun h => absurd rfl h) (fun i hi => by simp at hi)
      · have hz0 := (hc 0 (by omega)).1
        have hs := cell_spot hz0
        obtain ⟨b, o, sp⟩ := x
        simp [Addr.add] at hs
        subst hs
        have hadd : ∀ i, (Addr.mk b o none).add i = ⟨b, o + i, none⟩ := fun i => by
          by_cases e : i = 0
          · subst e; simp [Addr.add]
          · simp [Addr.add, e]
        refine .lst _ _ _ _ _ _ (fun i => .slice (A i) (L i) (C i)) hl (fun h => by cases h) hm (by simp) (fun _ => ⟨b, o, rfl, fun h => h, ?_, fun i hi => ?_⟩) (fun i hi => ?_)
        · have := hz0; rw [hadd] at this; exact cell_lt this
        · simp at hi
          rw [← hadd]; exact (hc i (by omega)).1
        · simp at hi
          have e : (((List.range len).map X).map pli).getD i .junk = pli (X i) := by simp [List.getD, hi]
          rw [e, ← (hX i (by omega)).1]
          exact V.of_ints (hX i (by omega)).2 (fun _ _ _ _ hf => hf)
end Go.Proofs.Yteecmiagfjjefaa
