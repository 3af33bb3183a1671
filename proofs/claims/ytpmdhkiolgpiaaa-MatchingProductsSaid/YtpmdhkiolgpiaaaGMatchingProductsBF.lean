/- Contracts of functions of package slices at lists of ints. No condition of its own. -/
import Derived.Test.YtpmdhkiolgpiaaaGMatchingProductsAX
import Derived.Test.YtpmdhkiolgpiaaaGMatchingProductsBD
import Derived.Test.YtpmdhkiolgpiaaaGMatchingProductsBE
import Derived.Test.YtpmdhkiolgpiaaaGMatchingProductsAF
import Derived.Maps.AppendAt
import Derived.Laws.OwnMore
import Derived.Maps.Range
import Derived.Test.YtpmdhkiolgpiaaaGMatchingProductsAA
set_option linter.unusedVariables false
set_option linter.unusedSimpArgs false
namespace Go.Proofs.Ytpmdhkiolgpiaaa
open Go.RowKit

theorem take_eq_succ {xs ys : List Int} {k : Nat} (h1 : k < xs.length) (h2 : k < ys.length) (h : xs.take k = ys.take k) (he : xs.getD k 0 = ys.getD k 0) : xs.take (k + 1) = ys.take (k + 1) := by
  rw [List.take_succ_eq_append_getElem h1, List.take_succ_eq_append_getElem h2, h, ← getD_lt 0 h1, ← getD_lt 0 h2, he]
set_option maxHeartbeats 1000000 in
set_option maxRecDepth 100000 in
theorem equal_s (xs ys : List Int) : SC Try.prog 11 [pli xs, pli ys] (.sc (.bool (decide (xs = ys)))) := by
  refine SC.len (callable Try.func11 rfl rfl) (fun hlen => ?_)
  have hx : xs.length ≤ 9223372036854775807 := hlen (pli xs) (by simp)
  clear hlen
  refine SC.go {} tok mixed Try.func11 rfl rfl Try.ntmps11 rfl rfl (by kernel_rfl) ?_
  first | simp only [updS] | simp only [updL, Nat.reduceAdd]
  by_cases hl : xs.length = ys.length
  · repeat (first | refine S0 ?_ | refine S1 ?_ | refine S2 ?_ | refine S3 ?_ | refine S4 ?_ | refine S5 ?_ | refine S6 ?_ | refine S7 ?_ | refine S8 ?_ | refine S9 ?_ | refine S10 ?_ | refine S11 ?_ | refine S12 ?_ | refine S13 ?_ | refine S15 ?_ | refine S16 ?_ | refine S17 ?_ ?_ | refine S19 ?_ | refine S20 ?_ | refine S21 ?_ | refine S22 ?_ | refine S23 ?_ | refine S25 ?_ | refine S26 ?_ | refine S29 ?_ | refine S49 ?_ | refine S57 ?_ | refine S58 ?_ | refine S64 ?_)
    refine CW.loopS (fun k : Nat => k ≤ xs.length ∧ xs.take k = ys.take k) (fun k => [(0, pli xs), (1, pli ys), (12, pint xs.length), (13, pint k)]) (fun _ _ => True) (fun k => xs.length - k) 0 ⟨⟨by omega, rfl⟩, SLx, trivial⟩ ?_
    intro k t h ⟨hk, hg⟩ _
    first | simp only [updS] | simp only [updL, Nat.reduceAdd]
    by_cases hk2 : k < xs.length
    · by_cases he : xs.getD k 0 = ys.getD k 0
      · repeat (first | refine S0 ?_ | refine S1 ?_ | refine S2 ?_ | refine S3 ?_ | refine S4 ?_ | refine S5 ?_ | refine S6 ?_ | refine S7 ?_ | refine S8 ?_ | refine S9 ?_ | refine S10 ?_ | refine S11 ?_ | refine S12 ?_ | refine S13 ?_ | refine S15 ?_ | refine S16 ?_ | refine S17 ?_ ?_ | refine S19 ?_ | refine S20 ?_ | refine S21 ?_ | refine S22 ?_ | refine S23 ?_ | refine S25 ?_ | refine S26 ?_ | refine S29 ?_ | refine S49 ?_ | refine S57 ?_ | refine S58 ?_ | refine S64 ?_)
        exact ⟨k + 1, ⟨by omega, take_eq_succ hk2 (by omega) hg he⟩, SLx, trivial, by omega⟩
      · repeat (first | refine S0 ?_ | refine S1 ?_ | refine S2 ?_ | refine S3 ?_ | refine S4 ?_ | refine S5 ?_ | refine S6 ?_ | refine S7 ?_ | refine S8 ?_ | refine S9 ?_ | refine S10 ?_ | refine S11 ?_ | refine S12 ?_ | refine S13 ?_ | refine S15 ?_ | refine S16 ?_ | refine S17 ?_ ?_ | refine S19 ?_ | refine S20 ?_ | refine S21 ?_ | refine S22 ?_ | refine S23 ?_ | refine S25 ?_ | refine S26 ?_ | refine S29 ?_ | refine S49 ?_ | refine S57 ?_ | refine S58 ?_ | refine S64 ?_)
        refine ⟨.inr rfl, ?_⟩
        rw [show decide (xs = ys) = false from decide_eq_false (fun e => he (by rw [e]))]
        exact .cl rfl
    · repeat (first | refine S0 ?_ | refine S1 ?_ | refine S2 ?_ | refine S3 ?_ | refine S4 ?_ | refine S5 ?_ | refine S6 ?_ | refine S7 ?_ | refine S8 ?_ | refine S9 ?_ | refine S10 ?_ | refine S11 ?_ | refine S12 ?_ | refine S13 ?_ | refine S15 ?_ | refine S16 ?_ | refine S17 ?_ ?_ | refine S19 ?_ | refine S20 ?_ | refine S21 ?_ | refine S22 ?_ | refine S23 ?_ | refine S25 ?_ | refine S26 ?_ | refine S29 ?_ | refine S49 ?_ | refine S57 ?_ | refine S58 ?_ | refine S64 ?_)
      refine ⟨.inr rfl, ?_⟩
      have e : xs = ys := by rw [List.take_of_length_le (by omega), List.take_of_length_le (by omega)] at hg; exact hg
      rw [show decide (xs = ys) = true from decide_eq_true e]
      exact .cl rfl
  · repeat (first | refine S0 ?_ | refine S1 ?_ | refine S2 ?_ | refine S3 ?_ | refine S4 ?_ | refine S5 ?_ | refine S6 ?_ | refine S7 ?_ | refine S8 ?_ | refine S9 ?_ | refine S10 ?_ | refine S11 ?_ | refine S12 ?_ | refine S13 ?_ | refine S15 ?_ | refine S16 ?_ | refine S17 ?_ ?_ | refine S19 ?_ | refine S20 ?_ | refine S21 ?_ | refine S22 ?_ | refine S23 ?_ | refine S25 ?_ | refine S26 ?_ | refine S29 ?_ | refine S49 ?_ | refine S57 ?_ | refine S58 ?_ | refine S64 ?_)
    refine ⟨.inr rfl, ?_⟩
    rw [show decide (xs = ys) = false from decide_eq_false (fun e => hl (by rw [e]))]
    exact .cl rfl
end Go.Proofs.Ytpmdhkiolgpiaaa

/- slices.Index and slices.Contains at lists of ints. No condition of its own. -/
set_option linter.unusedVariables false
set_option linter.unusedSimpArgs false
namespace Go.Proofs.Ytpmdhkiolgpiaaa
open Go.RowKit

set_option maxHeartbeats 2000000 in
set_option maxRecDepth 100000 in
theorem index_some {xs : List Int} {x : Int} (hx : xs.length ≤ 1000000) {m : Nat} (hm : m < xs.length) (h : ∀ k, k < m → xs.getD k 0 ≠ x) (h2 : xs.getD m 0 = x) : SC Try.prog 56 [pli xs, pint x] (pint m) := by
  refine SC.go {} tok mixed Try.func56 rfl rfl Try.ntmps56 rfl rfl (by kernel_rfl) ?_
  first | simp only [updS] | simp only [updL, Nat.reduceAdd]
  repeat (first | refine S0 ?_ | refine S1 ?_ | refine S2 ?_ | refine S4 ?_ | refine S5 ?_ | refine S6 ?_ | refine S7 ?_ | refine S8 ?_ | refine S9 ?_ | refine S10 ?_ | refine S11 ?_ | refine S12 ?_ | refine S13 ?_ | refine S15 ?_ | refine S16 ?_ | refine S19 ?_ | refine S20 ?_ | refine S21 ?_ | refine S22 ?_ | refine S23 ?_ | refine S25 ?_ | refine S26 ?_ | refine S28 ?_)
  refine CW.loopS (fun k : Nat => k ≤ m) (fun k => [(0, pli xs), (1, pint x), (7, pint xs.length), (8, pint k)]) (fun _ _ => True) (fun k => xs.length - k) 0 ⟨by omega, SLx, trivial⟩ ?_
  rintro k t hp hk _
  first | simp only [updS] | simp only [updL, Nat.reduceAdd]
  by_cases hk2 : k < m
  · have hs := h k hk2
    repeat (first | refine S0 ?_ | refine S1 ?_ | refine S2 ?_ | refine S4 ?_ | refine S5 ?_ | refine S6 ?_ | refine S7 ?_ | refine S8 ?_ | refine S9 ?_ | refine S10 ?_ | refine S11 ?_ | refine S12 ?_ | refine S13 ?_ | refine S15 ?_ | refine S16 ?_ | refine S19 ?_ | refine S20 ?_ | refine S21 ?_ | refine S22 ?_ | refine S23 ?_ | refine S25 ?_ | refine S26 ?_ | refine S28 ?_)
    exact ⟨k + 1, by omega, SLx, trivial, by omega⟩
  · obtain rfl : k = m := by omega
    repeat (first | refine S0 ?_ | refine S1 ?_ | refine S2 ?_ | refine S4 ?_ | refine S5 ?_ | refine S6 ?_ | refine S7 ?_ | refine S8 ?_ | refine S9 ?_ | refine S10 ?_ | refine S11 ?_ | refine S12 ?_ | refine S13 ?_ | refine S15 ?_ | refine S16 ?_ | refine S19 ?_ | refine S20 ?_ | refine S21 ?_ | refine S22 ?_ | refine S23 ?_ | refine S25 ?_ | refine S26 ?_ | refine S28 ?_)
    exact ⟨.inr rfl, .cl rfl⟩
end Go.Proofs.Ytpmdhkiolgpiaaa

/-
  Laws for slices of one-cell elements: s[k:], s[:k], s[i:j]; append of one element to a row of the call's own; rows of the call's own read as lists. Nothing of the program is here.
-/
set_option linter.unusedVariables false
set_option linter.unusedSimpArgs false
namespace Go.Proofs.Ytpmdhkiolgpiaaa
open Go.RowKit

/-- The address of s[k:], as the model has it. -/
def cutAt (A : Option Addr) (cap k : Nat) : Option Addr := if cap = k then A else A.map (·.add k)

theorem IsInts.cut {w : World} {A : Option Addr} {cap : Nat} {xs : List Int} (h : IsInts w A cap xs) {k : Nat} (hk : k ≤ xs.length) : IsInts w (cutAt A cap k) (cap - k) (xs.drop k) := by
  have h1 := h.len
  refine ⟨by simp; omega, by have := h.cap_le; omega, fun i hi => ?_, fun hx => ?_⟩
  · have := h.bd (k + i) (by simp at hi; omega)
    simpa [List.getD] using this
  · have hl : k < xs.length := by
      apply Classical.byContradiction; intro hc
      exact hx (List.drop_eq_nil_of_le (by omega))
    obtain ⟨b, o, rfl, hb, hc⟩ := h.row (by intro e; simp [e] at hl)
    refine ⟨b, o + k, ?_, hb, fun i hi => ?_⟩
    · unfold cutAt
      rw [if_neg (by omega)]
      simp only [Option.map_some, Addr.add]
      split
      · rename_i e; subst e; rfl
      · rfl
    · have := hc (k + i) (by simp at hi; omega)
      rw [← Nat.add_assoc] at this
      simpa [List.getD] using this
theorem IsInts.take {w : World} {A : Option Addr} {cap : Nat} {xs : List Int} (h : IsInts w A cap xs) (k : Nat) : IsInts w A cap (xs.take k) := by
  have h1 := h.len
  refine ⟨by simp; omega, h.cap_le, fun i hi => ?_, fun hx => ?_⟩
  · simp at hi
    have := h.bd i (by omega)
    first | (simp [List.getD, List.getElem?_take, show i < k by omega]; done) | simpa [List.getD, List.getElem?_take, show i < k by omega] using this
  · obtain ⟨b, o, rfl, hb, hc⟩ := h.row (by rintro rfl; simp at hx)
    refine ⟨b, o, rfl, hb, fun i hi => ?_⟩
    simp at hi
    have := hc i (by omega)
    first | (simp [List.getD, List.getElem?_take, show i < k by omega]; done) | simpa [List.getD, List.getElem?_take, show i < k by omega] using this
theorem IsInts.nil (w : World) (A : Option Addr) (cap : Nat) (h : cap ≤ 9223372036854775807) : IsInts w A cap [] := ⟨by simp, h, fun i hi => by simp at hi, fun h => absurd rfl h⟩

section
variable {P : Program} (w : World) {ops : Array Oper} {rest : List Oper} {o : Oper} {a : Act} {Q : Exit → Act → World → Prop}
end


/-! ### a row of the call's own -/
/-- The facts on an element type, off the program's table. -/
structure Elem1 (P : Program) (t e : TypeId) (z : Value) (bytes : Nat) : Prop where
  ht : P.underlying t = some (.slice e)
  hi : (P.info? e).map (fun i => (i.zero, i.size, i.bytes)) = some (some z, 1, bytes)
  hz : z.cells.size = 1
  hb : bytes ≤ 64

section
variable {P : Program} (w : World) {ops : Array Oper} {rest : List Oper} {o : Oper} {a : Act} {Q : Exit → Act → World → Prop}
end

def lenOf : Value → Nat | .slice _ n _ => n | _ => 0
theorem cell_lt {w : World} {b o : Nat} {v : Value} (h : w.cell? ⟨b, o, none⟩ = some v) : b < w.heap.size := by
  rcases Nat.lt_or_ge b w.heap.size with hlt | hge
  · exact hlt
  · simp [World.cell?, Array.getElem?_eq_none hge] at h
theorem cell_spot {w : World} {a : Addr} {v : Value} (h : w.cell? a = some v) : a.spot = none := by
  unfold World.cell? at h
  split at h
  · split at h
    · cases h
    · rename_i hs; simpa using hs
  · cases h
/-- What the row's own frame hands over of an argument []int. -/
theorem ints_of_row {w : World} {a : Option Addr} {len cap : Nat} {zs : List Int}
    (h : (a = none ∧ len = 0 ∧ cap = 0 ∧ zs = []) ∨ ∃ x, a = some x ∧ len ≤ cap ∧ cap ≤ maxLen ∧ zs.length = cap ∧ (∀ i, i < zs.length → w.cell? (x.add i) = some (.int .i64 (zs.getD i 0))) ∧ ∀ n ∈ zs, (Lit.int .i64 n).wf = true) :
    ∃ xs : List Int, xs.length = len ∧ IsInts w a cap xs := by
  rcases h with ⟨rfl, rfl, rfl, rfl⟩ | ⟨x, rfl, hl, hm, hz, hc, hw⟩
  · exact ⟨[], rfl, IsInts.nil _ _ _ (by omega)⟩
  · have hlen : (zs.take len).length = len := by simp; omega
    unfold maxLen at hm
    refine ⟨zs.take len, hlen, by omega, by omega, fun i hi => ?_, fun hx => ?_⟩
    · have hi' : i < zs.length := by simp at hi; omega
      have := hw _ (List.getElem_mem hi')
      rw [getD_lt 0 hi, List.getElem_take]
      simp [Lit.wf, IntKind.min, IntKind.max, IntKind.signed, IntKind.bits] at this
      exact ⟨by omega, by omega⟩
    · have h0 : 0 < zs.length := by
        rcases Nat.eq_zero_or_pos zs.length with e | e
        · exact absurd (by have := List.eq_nil_of_length_eq_zero e; subst this; exact List.take_nil) hx
        · exact e
      have hs := cell_spot (hc 0 h0)
      have hc0 := hc 0 h0
      obtain ⟨b, o, sp⟩ := x
      simp [Addr.add] at hs
      subst hs
      refine ⟨b, o, rfl, cell_lt (by simpa [Addr.add] using hc0), fun i hi => ?_⟩
      have hi' : i < zs.length := by simp at hi; omega
      have := hc i hi'
      rw [getD_lt 0 hi, List.getElem_take, ← getD_lt 0 hi']
      by_cases e : i = 0
      · subst e; simpa [Addr.add] using this
      · simpa [Addr.add, e] using this

end Go.Proofs.Ytpmdhkiolgpiaaa
