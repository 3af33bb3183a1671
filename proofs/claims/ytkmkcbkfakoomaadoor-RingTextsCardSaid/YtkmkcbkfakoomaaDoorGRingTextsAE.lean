/- Facts and contracts that the claim uses. No condition of its own. -/
import Derived.WalkKit
import Derived.WalkSpells
import Derived.WalkLawsBesides
import Derived.Lib.Hide
set_option linter.unusedVariables false
set_option linter.unusedSimpArgs false
namespace Go.Proofs.YtkmkcbkfakoomaaDoor
open Go.RowKit
def Row (w : World) (A : Option Addr) (vs : List Value) : Prop :=
  vs ≠ [] → ∃ b o, A = some ⟨b, o, none⟩ ∧ b < w.heap.size ∧ ∀ i, i < vs.length → w.cell? ⟨b, o + i, none⟩ = some (vs.getD i undef)
def in64 (x : Int) : Prop := -9223372036854775808 ≤ x ∧ x ≤ 9223372036854775807
structure IsInts (w : World) (A : Option Addr) (cap : Nat) (xs : List Int) : Prop where
  len : xs.length ≤ cap
  cap_le : cap ≤ 9223372036854775807
  bd : ∀ i, i < xs.length → in64 (xs.getD i 0)
  row : xs ≠ [] → ∃ b o, A = some ⟨b, o, none⟩ ∧ b < w.heap.size ∧ ∀ i, i < xs.length → w.cell? ⟨b, o + i, none⟩ = some (.int .i64 (xs.getD i 0))
theorem IsInts.below {w w' : World} {A : Option Addr} {cap : Nat} {xs : List Int} {B : Nat} (h : IsInts w A cap xs) (hb : Below B w w') (hB : w.heap.size ≤ B) : IsInts w' A cap xs :=
  ⟨h.len, h.cap_le, h.bd, fun hx => by
    obtain ⟨b, o, e, hl, hc⟩ := h.row hx
    exact ⟨b, o, e, Nat.lt_of_lt_of_le hl (Nat.le_trans (Nat.le_refl _) hb.size), fun i hi => (hb.cell (p := ⟨b, o + i, none⟩) (by show b < B; omega)).trans (hc i hi)⟩⟩
end Go.Proofs.YtkmkcbkfakoomaaDoor
