/- Facts and contracts that the claim uses. No condition of its own. -/
import Derived.Test.YtkmkcbkfakoomaaDoorGRingTextsAE
import Derived.Maps.AppendAt
import Derived.Laws.OwnMore
import Derived.Maps.Range
import Derived.Test.YtkmkcbkfakoomaaDoorGRingTextsAA
set_option linter.unusedVariables false
set_option linter.unusedSimpArgs false
namespace Go.Proofs.YtkmkcbkfakoomaaDoor
open Go.RowKit
def cutAt (A : Option Addr) (cap k : Nat) : Option Addr := if cap = k then A else A.map (·.add k)
theorem IsInts.cut {w : World} {A : Option Addr} {cap : Nat} {xs : List Int} (h : IsInts w A cap xs) {k : Nat} (hk : k ≤ xs.length) : IsInts w (cutAt A cap k) (cap - k) (xs.drop k) := by
  have h1 := h.len
  refine ⟨by simp; omega, by have := h.cap_le; omega, fun i hi => ?_, fun hx => ?_⟩
  · have := h.bd (k + i) (by simp at hi; omega)
    simpa [List.getD] using this
  · have hl : k < xs.length := by
      apply Classical.byContradiction; intro hc
      exact hx (List.drop_eq_nil_of_le (by omega))
    obtain ⟨b, o, rfl, hb, hc⟩ := h.row (by intro e; simp [e] at hl)
    refine ⟨b, o + k, ?_, hb, fun i hi => ?_⟩
    · unfold cutAt
      rw [if_neg (by omega)]
      simp only [Option.map_some, Addr.add]
      split
      · rename_i e; subst e; rfl
      · rfl
    · have := hc (k + i) (by simp at hi; omega)
      rw [← Nat.add_assoc] at this
      simpa [List.getD] using this
theorem IsInts.take {w : World} {A : Option Addr} {cap : Nat} {xs : List Int} (h : IsInts w A cap xs) (k : Nat) : IsInts w A cap (xs.take k) := by
  have h1 := h.len
  refine ⟨by simp; omega, h.cap_le, fun i hi => ?_, fun hx => ?_⟩
  · simp at hi
    have := h.bd i (by omega)
    first | (simp [List.getD, List.getElem?_take, show i < k by omega]; done) | simpa [List.getD, List.getElem?_take, show i < k by omega] using this
  · obtain ⟨b, o, rfl, hb, hc⟩ := h.row (by rintro rfl; simp at hx)
    refine ⟨b, o, rfl, hb, fun i hi => ?_⟩
    simp at hi
    have := hc i (by omega)
    first | (simp [List.getD, List.getElem?_take, show i < k by omega]; done) | simpa [List.getD, List.getElem?_take, show i < k by omega] using this
theorem IsInts.nil (w : World) (A : Option Addr) (cap : Nat) (h : cap ≤ 9223372036854775807) : IsInts w A cap [] := ⟨by simp, h, fun i hi => by simp at hi, fun h => absurd rfl h⟩
section
variable {P : Program} (w : World) {ops : Array Oper} {rest : List Oper} {o : Oper} {a : Act} {Q : Exit → Act → World → Prop}
end
/-! ### a row of the call's own -/
structure Elem1 (P : Program) (t e : TypeId) (z : Value) (bytes : Nat) : Prop where
  ht : P.underlying t = some (.slice e)
  hi : (P.info? e).map (fun i => (i.zero, i.size, i.bytes)) = some (some z, 1, bytes)
  hz : z.cells.size = 1
  hb : bytes ≤ 64
section
variable {P : Program} (w : World) {ops : Array Oper} {rest : List Oper} {o : Oper} {a : Act} {Q : Exit → Act → World → Prop}
end
def lenOf : Value → Nat | .slice _ n _ => n | _ => 0
theorem cell_lt {w : World} {b o : Nat} {v : Value} (h : w.cell? ⟨b, o, none⟩ = some v) : b < w.heap.size := by
  rcases Nat.lt_or_ge b w.heap.size with hlt | hge
  · exact hlt
  · simp [World.cell?, Array.getElem?_eq_none hge] at h
theorem cell_spot {w : World} {a : Addr} {v : Value} (h : w.cell? a = some v) : a.spot = none := by
  unfold World.cell? at h
  split at h
  · split at h
    · cases h
    · rename_i hs; simpa using hs
  · cases h
theorem ints_of_row {w : World} {a : Option Addr} {len cap : Nat} {zs : List Int}
    (h : (a = none ∧ len = 0 ∧ cap = 0 ∧ zs = []) ∨ ∃ x, a = some x ∧ len ≤ cap ∧ cap ≤ maxLen ∧ zs.length = cap ∧ (∀ i, i < zs.length → w.cell? (x.add i) = some (.int .i64 (zs.getD i 0))) ∧ ∀ n ∈ zs, (Lit.int .i64 n).wf = true) :
    ∃ xs : List Int, xs.length = len ∧ IsInts w a cap xs := by
  rcases h with ⟨rfl, rfl, rfl, rfl⟩ | ⟨x, rfl, hl, hm, hz, hc, hw⟩
  · exact ⟨[], rfl, IsInts.nil _ _ _ (by omega)⟩
  · have hlen : (zs.take len).length = len := by simp; omega
    unfold maxLen at hm
    refine ⟨zs.take len, hlen, by omega, by omega, fun i hi => ?_, fun hx => ?_⟩
    · have hi' : i < zs.length := by simp at hi; omega
      have := hw _ (List.getElem_mem hi')
      rw [getD_lt 0 hi, List.getElem_take]
      simp [Lit.wf, IntKind.min, IntKind.max, IntKind.signed, IntKind.bits] at this
      exact ⟨by omega, by omega⟩
    · have h0 : 0 < zs.length := by
        rcases Nat.eq_zero_or_pos zs.length with e | e
        · exact absurd (by have := List.eq_nil_of_length_eq_zero e; subst this; exact List.take_nil) hx
        · exact e
      have hs := cell_spot (hc 0 h0)
      have hc0 := hc 0 h0
      obtain ⟨b, o, sp⟩ := x
      simp [Addr.add] at hs
      subst hs
      refine ⟨b, o, rfl, cell_lt (by simpa [Addr.add] using hc0), fun i hi => ?_⟩
      have hi' : i < zs.length := by simp at hi; omega
      have := hc i hi'
      rw [getD_lt 0 hi, List.getElem_take, ← getD_lt 0 hi']
      by_cases e : i = 0
      · subst e; simpa [Addr.add] using this
      · simpa [Addr.add, e] using this
end Go.Proofs.YtkmkcbkfakoomaaDoor
