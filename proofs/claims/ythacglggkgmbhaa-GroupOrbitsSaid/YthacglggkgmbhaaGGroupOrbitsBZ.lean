/- What the row's own frame hands over of an argument that is a slice of slices of ints. Nothing of the program is here. -/
import Derived.Test.YthacglggkgmbhaaGGroupOrbitsBC
import Derived.Test.YthacglggkgmbhaaGGroupOrbitsAN
import Derived.Test.YthacglggkgmbhaaGGroupOrbitsAS
import Derived.WalkKit
import Derived.ChangeSlices
import Derived.Deep.Slices
import Derived.Deep.Matrix
set_option linter.unusedVariables false
set_option linter.unusedSimpArgs false
namespace Go.Proofs.Ythacglggkgmbhaa
open Go.RowKit Go.Deep

def IsRowss (w : World) (a : Option Addr) (len cap : Nat) (A : Nat → Option Addr) (L C : Nat → Nat) (Z : Nat → List Int) : Prop :=
  (a = none ∧ len = 0 ∧ cap = 0) ∨ ∃ x, a = some x ∧ len ≤ cap ∧ cap ≤ maxLen ∧ ∀ r, r < cap → w.cell? (x.add r) = some (.slice (A r) (L r) (C r)) ∧
    ((A r = none ∧ L r = 0 ∧ C r = 0 ∧ Z r = []) ∨ ∃ y, A r = some y ∧ L r ≤ C r ∧ C r ≤ maxLen ∧ (Z r).length = C r ∧ (∀ i, i < (Z r).length → w.cell? (y.add i) = some (.int .i64 ((Z r).getD i 0))) ∧ ∀ n ∈ Z r, (Lit.int .i64 n).wf = true)
theorem open_rowss {H : Type} {enc : TypeId × Value → H} {P : Program} {w : World} {base : Nat} {held : Bool} {t e q : TypeId} {fuel : Nat} {a : Option Addr} {len cap : Nat} {x : DataW H × List MemPlace}
    (ht : P.underlying t = some (.slice e)) (he : P.underlying e = some (.slice q)) (hq : P.underlying q = some (.int .i64)) (ce : P.cellsOf e = 1) (cq : P.cellsOf q = 1)
    (h : DataW.trod enc P w base (fun _ => true) held fuel t [.slice a len cap] = some x) : ∃ A L C Z, IsRowss w a len cap A L C Z := by
  rcases open_int_rows ht he hq ce cq h with ⟨h0, _⟩ | ⟨a', len', cap', A, L, C, Z, h1, hb, hl, hm, _, hx⟩
  · simp only [List.cons.injEq, Value.slice.injEq, and_true] at h0
    obtain ⟨rfl, rfl, rfl⟩ := h0
    exact ⟨fun _ => none, fun _ => 0, fun _ => 0, fun _ => [], .inl ⟨rfl, rfl, rfl⟩⟩
  simp only [List.cons.injEq, Value.slice.injEq, and_true] at h1
  obtain ⟨rfl, rfl, rfl⟩ := h1
  refine ⟨A, L, C, Z, .inr ⟨a', rfl, hl, hm, fun r hr => ?_⟩⟩
  obtain ⟨k1, k2, k3, k4, k5, k6, k7⟩ := hx r hr
  refine ⟨k1, ?_⟩
  cases hA : A r with
  | none =>
    have := k6 hA
    exact .inl ⟨rfl, by omega, this, List.eq_nil_of_length_eq_zero (by omega)⟩
  | some y => exact .inr ⟨y, rfl, k2, k3, k4, fun i hi => (k7 y hA).2 i (by omega), k5⟩
/-- the argument as a list of lists -/
theorem lls_of_row {w : World} {a : Option Addr} {len cap : Nat} {A : Nat → Option Addr} {L C : Nat → Nat} {Z : Nat → List Int} (h : IsRowss w a len cap A L C Z) :
    ∃ l : List (List Int), l.length = len ∧ (∀ r ∈ l, ∀ i, i < r.length → in64 (r.getD i 0)) ∧ V (fun _ => none) (fun _ => False) w (.lst false 1 l.length (l.map pli)) (.slice a len cap) := by
  rcases h with ⟨rfl, rfl, rfl⟩ | ⟨x, rfl, hl, hm, hc⟩
  · exact ⟨[], rfl, (fun r hr => by simp at hr), .lst _ _ _ _ _ _ (fun _ => undef) (Nat.le_refl _) (fun h => by cases h) (Nat.zero_le _) rfl (fun h => absurd rfl h) (fun i hi => by simp at hi)⟩
  · have each : ∀ r, r < cap → ∃ xs : List Int, xs.length = L r ∧ IsInts w (A r) (C r) xs := fun r hr => ints_of_row (hc r hr).2
    obtain ⟨X, hX⟩ := choose_lt each
    have hlen : ((List.range len).map X).length = len := by simp
    refine ⟨(List.range len).map X, hlen, fun r hr i hi => ?_, ?_⟩
    · obtain ⟨k, hk, rfl⟩ := List.mem_map.1 hr
      exact (hX k (by have := List.mem_range.1 hk; omega)).2.bd i hi
    · rw [hlen]
      by_cases h0 : len = 0
      · subst h0
        exact .lst _ _ _ _ _ _ (fun _ => undef) hl (fun h => by cases h) hm rfl (fun h => absurd rfl h) (fun i hi => by simp at hi)
      · have hz0 := (hc 0 (by omega)).1
        have hs := cell_spot hz0
        obtain ⟨b, o, sp⟩ := x
        simp [Addr.add] at hs
        subst hs
        have hadd : ∀ i, (Addr.mk b o none).add i = ⟨b, o + i, none⟩ := fun i => by
          by_cases e : i = 0
          · subst e; simp [Addr.add]
          · simp [Addr.add, e]
        refine .lst _ _ _ _ _ _ (fun i => .slice (A i) (L i) (C i)) hl (fun h => by cases h) hm (by simp) (fun _ => ⟨b, o, rfl, fun h => h, ?_, fun i hi => ?_⟩) (fun i hi => ?_)
        · have := hz0; rw [hadd] at this; exact cell_lt this
        · simp at hi
          rw [← hadd]; exact (hc i (by omega)).1
        · simp at hi
          have e : (((List.range len).map X).map pli).getD i .junk = pli (X i) := by simp [List.getD, hi]
          rw [e, ← (hX i (by omega)).1]
          exact V.of_ints (hX i (by omega)).2 (fun _ _ _ _ hf => hf)
end Go.Proofs.Ythacglggkgmbhaa
