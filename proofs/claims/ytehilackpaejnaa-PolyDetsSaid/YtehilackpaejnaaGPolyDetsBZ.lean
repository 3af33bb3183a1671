/- What the row's own frame hands over of an argument that is a slice of slices of ints. Nothing of the program is here. -/
import Derived.Test.YtehilackpaejnaaGPolyDetsAA
import Derived.Test.YtehilackpaejnaaGPolyDetsAP
import Derived.Test.YtehilackpaejnaaGPolyDetsAU
import Derived.WalkKit
import Derived.ChangeSlices
import Derived.Deep.Slices
import Derived.Deep.Matrix
import Derived.Test.YtehilackpaejnaaGPolyDetsAY
import Derived.Deep.SlicePairs
set_option linter.unusedVariables false
set_option linter.unusedSimpArgs false
namespace Go.Proofs.Ytehilackpaejnaa
open Go.RowKit Go.Deep

def IsRowss (w : World) (a : Option Addr) (len cap : Nat) (A : Nat → Option Addr) (L C : Nat → Nat) (Z : Nat → List Int) : Prop :=
  (a = none ∧ len = 0 ∧ cap = 0) ∨ ∃ x, a = some x ∧ len ≤ cap ∧ cap ≤ maxLen ∧ ∀ r, r < cap → w.cell? (x.add r) = some (.slice (A r) (L r) (C r)) ∧
    ((A r = none ∧ L r = 0 ∧ C r = 0 ∧ Z r = []) ∨ ∃ y, A r = some y ∧ L r ≤ C r ∧ C r ≤ maxLen ∧ (Z r).length = C r ∧ (∀ i, i < (Z r).length → w.cell? (y.add i) = some (.int .i64 ((Z r).getD i 0))) ∧ ∀ n ∈ Z r, (Lit.int .i64 n).wf = true)
theorem open_rowss {H : Type} {enc : TypeId × Value → H} {P : Program} {w : World} {base : Nat} {held : Bool} {t e q : TypeId} {fuel : Nat} {a : Option Addr} {len cap : Nat} {x : DataW H × List MemPlace}
    (ht : P.underlying t = some (.slice e)) (he : P.underlying e = some (.slice q)) (hq : P.underlying q = some (.int .i64)) (ce : P.cellsOf e = 1) (cq : P.cellsOf q = 1)
    (h : DataW.trod enc P w base (fun _ => true) held fuel t [.slice a len cap] = some x) : ∃ A L C Z, IsRowss w a len cap A L C Z := by
  rcases open_int_rows ht he hq ce cq h with ⟨h0, _⟩ | ⟨a', len', cap', A, L, C, Z, h1, hb, hl, hm, _, hx⟩
  · simp only [List.cons.injEq, Value.slice.injEq, and_true] at h0
    obtain ⟨rfl, rfl, rfl⟩ := h0
    exact ⟨fun _ => none, fun _ => 0, fun _ => 0, fun _ => [], .inl ⟨rfl, rfl, rfl⟩⟩
  simp only [List.cons.injEq, Value.slice.injEq, and_true] at h1
  obtain ⟨rfl, rfl, rfl⟩ := h1
  refine ⟨A, L, C, Z, .inr ⟨a', rfl, hl, hm, fun r hr => ?_⟩⟩
  obtain ⟨k1, k2, k3, k4, k5, k6, k7⟩ := hx r hr
  refine ⟨k1, ?_⟩
  cases hA : A r with
  | none =>
    have := k6 hA
    exact .inl ⟨rfl, by omega, this, List.eq_nil_of_length_eq_zero (by omega)⟩
  | some y => exact .inr ⟨y, rfl, k2, k3, k4, fun i hi => (k7 y hA).2 i (by omega), k5⟩
/-- the argument as a list of lists -/
theorem lls_of_row {w : World} {a : Option Addr} {len cap : Nat} {A : Nat → Option Addr} {L C : Nat → Nat} {Z : Nat → List Int} (h : IsRowss w a len cap A L C Z) :
    ∃ l : List (List Int), l.length = len ∧ (∀ r ∈ l, ∀ i, i < r.length → in64 (r.getD i 0)) ∧ V (fun _ => none) (fun _ => False) w (.lst false 1 l.length (l.map pli)) (.slice a len cap) := by
  rcases h with ⟨rfl, rfl, rfl⟩ | ⟨x, rfl, hl, hm, hc⟩
  · exact ⟨[], rfl, (fun r hr => by simp at hr), .lst _ _ _ _ _ _ (fun _ => undef) (Nat.le_refl _) (fun h => by cases h) (Nat.zero_le _) rfl (fun h => absurd rfl h) (fun i hi => by simp at hi)⟩
  · have each : ∀ r, r < cap → ∃ xs : List Int, xs.length = L r ∧ IsInts w (A r) (C r) xs := fun r hr => ints_of_row (hc r hr).2
    obtain ⟨X, hX⟩ := choose_lt each
    have hlen : ((List.range len).map X).length = len := by simp
    refine ⟨(List.range len).map X, hlen, fun r hr i hi => ?_, ?_⟩
    · obtain ⟨k, hk, rfl⟩ := List.mem_map.1 hr
      exact (hX k (by have := List.mem_range.1 hk; omega)).2.bd i hi
    · rw [hlen]
      by_cases h0 : len = 0
      · subst h0
        exact .lst _ _ _ _ _ _ (fun _ => undef) hl (fun h => by cases h) hm rfl (fun h => absurd rfl h) (fun i hi => by simp at hi)
      · have hz0 := (hc 0 (by omega)).1
        have hs := cell_spot hz0
        obtain ⟨b, o, sp⟩ := x
        simp [Addr.add] at hs
        subst hs
        have hadd : ∀ i, (Addr.mk b o none).add i = ⟨b, o + i, none⟩ := fun i => by
          by_cases e : i = 0
          · subst e; simp [Addr.add]
          · simp [Addr.add, e]
        refine .lst _ _ _ _ _ _ (fun i => .slice (A i) (L i) (C i)) hl (fun h => by cases h) hm (by simp) (fun _ => ⟨b, o, rfl, fun h => h, ?_, fun i hi => ?_⟩) (fun i hi => ?_)
        · have := hz0; rw [hadd] at this; exact cell_lt this
        · simp at hi
          rw [← hadd]; exact (hc i (by omega)).1
        · simp at hi
          have e : (((List.range len).map X).map pli).getD i .junk = pli (X i) := by simp [List.getD, hi]
          rw [e, ← (hX i (by omega)).1]
          exact V.of_ints (hX i (by omega)).2 (fun _ _ _ _ hf => hf)
end Go.Proofs.Ytehilackpaejnaa

/- What the row's own frame hands over of an argument that is a slice of slices of polynomials. Nothing of the program is here. -/
set_option linter.unusedVariables false
set_option linter.unusedSimpArgs false
namespace Go.Proofs.Ytehilackpaejnaa
open Go.RowKit Go.Deep Go.ChangeShapes

theorem pos_get2 : ∀ (l : List Po) (i : Nat), i < l.length → (pos l).getD (i * 2) .junk = pint (l.getD i (0, [])).1 ∧ (pos l).getD (i * 2 + 1) .junk = pli (l.getD i (0, [])).2
  | p :: l, 0, _ => ⟨rfl, rfl⟩
  | p :: l, i + 1, h => by
    have := pos_get2 l i (by simpa using h)
    rw [pos_cons, show (i + 1) * 2 = i * 2 + 1 + 1 by omega]
    exact this
/-- a slice's value, from its cells -/
theorem V.of_cells {w : World} {x : Addr} {sz n cap : Nat} {cs : List PV} {u : Nat → Value} (hn : n ≤ cap) (hm : cap ≤ maxLen) (hl : cs.length = n * sz) (hc : ∀ i, i < n * sz → w.cell? (x.add i) = some (u i)) (hv : ∀ i, i < n * sz → V (fun _ => none) (fun _ => False) w (cs.getD i .junk) (u i)) :
    V (fun _ => none) (fun _ => False) w (.lst false sz n cs) (.slice (some x) n cap) := by
  by_cases h0 : n * sz = 0
  · obtain rfl : cs = [] := List.eq_nil_of_length_eq_zero (by omega)
    exact .lst _ _ _ _ _ _ (fun _ => undef) hn (fun h => by cases h) hm hl (fun h => absurd rfl h) (fun i hi => by simp at hi)
  · have hz0 := hc 0 (by omega)
    have hs := cell_spot hz0
    obtain ⟨b, o, sp⟩ := x
    simp [Addr.add] at hs
    subst hs
    have hadd : ∀ i, (Addr.mk b o none).add i = ⟨b, o + i, none⟩ := fun i => by
      by_cases e : i = 0
      · subst e; simp [Addr.add]
      · simp [Addr.add, e]
    refine .lst _ _ _ _ _ _ u hn (fun h => by cases h) hm hl (fun _ => ⟨b, o, rfl, fun h => h, ?_, fun i hi => ?_⟩) (fun i hi => hv i (by omega))
    · have := hz0; rw [hadd] at this; exact cell_lt this
    · rw [← hadd]; exact hc i (by omega)
variable {H : Type} {enc : TypeId × Value → H} {P : Program} {w : World} {base : Nat} {held : Bool}
theorem open_pli {t e : TypeId} {fuel : Nat} {v : Value} {x : DataW H × List MemPlace} (ht : P.underlying t = some (.slice e)) (he : P.underlying e = some (.int .i64)) (ce : P.cellsOf e = 1)
    (h : DataW.trod enc P w base (fun _ => true) held fuel t [v] = some x) : ∃ xs : List Int, V (fun _ => none) (fun _ => False) w (pli xs) v ∧ ∀ i, i < xs.length → in64 (xs.getD i 0) := by
  rcases open_ints ht he ce h with ⟨hcs, _⟩ | ⟨a, len, cap, zs, hcs, _, hl, hm, hz, _, hcell, hwz⟩
  · simp only [List.cons.injEq, and_true] at hcs
    subst hcs
    exact ⟨[], .lst _ _ _ _ _ _ (fun _ => undef) (Nat.le_refl _) (fun h => by cases h) (Nat.zero_le _) rfl (fun h => absurd rfl h) (fun i hi => by simp [ints] at hi), fun i hi => by simp at hi⟩
  · simp only [List.cons.injEq, and_true] at hcs
    subst hcs
    obtain ⟨xs, h1, h2⟩ := ints_of_row (w := w) (a := some a) (len := len) (cap := cap) (zs := zs) (.inr ⟨a, rfl, hl, hm, by simpa using hz, hcell, hwz⟩)
    subst h1
    exact ⟨xs, V.of_ints h2 (fun _ _ _ _ hf => hf), h2.bd⟩
theorem open_pps {t e q : TypeId} {f0 f1 : Field} {fuel : Nat} {v : Value} {x : DataW H × List MemPlace} (ht : P.underlying t = some (.slice e)) (he : P.underlying e = some (.struct #[f0, f1])) (ce : P.cellsOf e = 2) (o0 : f0.offset = 0) (o1 : f1.offset = 1) (c0 : P.cellsOf f0.type = 1) (c1 : P.cellsOf f1.type = 1)
    (h0 : P.underlying f0.type = some (.int .i64)) (h1 : P.underlying f1.type = some (.slice q)) (hq : P.underlying q = some (.int .i64)) (cq : P.cellsOf q = 1)
    (h : DataW.trod enc P w base (fun _ => true) held fuel t [v] = some x) : ∃ l : List Po, V (fun _ => none) (fun _ => False) w (pps l) v ∧ ∀ p ∈ l, ∀ i, i < p.2.length → in64 (p.2.getD i 0) := by
  rcases open_slice_pairs ht he ce o0 o1 c0 c1 h with ⟨hcs, _⟩ | ⟨a, len, cap, m, n, V0, V1, D0, D1, P0, P1, hcs, _, hl, hm, hmm, _, hx⟩
  · simp only [List.cons.injEq, and_true] at hcs
    subst hcs
    exact ⟨[], .lst _ _ _ _ _ _ (fun _ => undef) (Nat.le_refl _) (fun h => by cases h) (Nat.zero_le _) rfl (fun h => absurd rfl h) (fun i hi => by simp [pos] at hi), fun p hp => by cases hp⟩
  · simp only [List.cons.injEq, and_true] at hcs
    subst hcs
    simp only [if_true] at hmm
    subst hmm
    have each : ∀ i, i < m → ∃ p : Po, V (fun _ => none) (fun _ => False) w (pint p.1) (V0 i) ∧ V (fun _ => none) (fun _ => False) w (pli p.2) (V1 i) ∧ ∀ k, k < p.2.length → in64 (p.2.getD k 0) := fun i hi => by
      obtain ⟨_, _, g0, g1⟩ := hx i hi
      obtain ⟨z, e0, _, _⟩ := DataW.trod_int h0 g0
      obtain ⟨xs, e1, e2⟩ := open_pli h1 hq cq g1
      simp only [List.cons.injEq, and_true] at e0
      exact ⟨(z, xs), by rw [e0]; exact .sc _, e1, e2⟩
    obtain ⟨F, hF⟩ := choose_lt each
    have hlen : ((List.range len).map F).length = len := by simp
    refine ⟨(List.range len).map F, ?_, fun p hp => ?_⟩
    · unfold pps
      rw [hlen]
      refine V.of_cells (u := fun i => if i % 2 = 0 then V0 (i / 2) else V1 (i / 2)) hl hm (by rw [pos_length, hlen]) (fun i hi => ?_) (fun i hi => ?_)
      · have hi2 := hx (i / 2) (by omega)
        by_cases e : i % 2 = 0
        · rw [if_pos e]
          have := hi2.1
          rwa [show i / 2 * 2 = i by omega] at this
        · rw [if_neg e]
          have := hi2.2.1
          rwa [show i / 2 * 2 + 1 = i by omega] at this
      · have hg := pos_get2 ((List.range len).map F) (i / 2) (by rw [hlen]; omega)
        have hf := hF (i / 2) (by omega)
        have ef : ((List.range len).map F).getD (i / 2) (0, []) = F (i / 2) := by simp [List.getD, show i / 2 < len by omega]
        rw [ef] at hg
        by_cases e : i % 2 = 0
        · simp only [if_pos e]
          rw [show i / 2 * 2 = i by omega] at hg
          rw [hg.1]; exact hf.1
        · simp only [if_neg e]
          rw [show i / 2 * 2 + 1 = i by omega] at hg
          rw [hg.2]; exact hf.2.1
    · obtain ⟨i, hi, rfl⟩ := List.mem_map.1 hp
      exact (hF i (by have := List.mem_range.1 hi; omega)).2.2
theorem open_ppss {s t e q : TypeId} {f0 f1 : Field} {fuel : Nat} {v : Value} {x : DataW H × List MemPlace} (hs : P.underlying s = some (.slice t)) (ct : P.cellsOf t = 1) (ht : P.underlying t = some (.slice e)) (he : P.underlying e = some (.struct #[f0, f1])) (ce : P.cellsOf e = 2) (o0 : f0.offset = 0) (o1 : f1.offset = 1) (c0 : P.cellsOf f0.type = 1) (c1 : P.cellsOf f1.type = 1)
    (h0 : P.underlying f0.type = some (.int .i64)) (h1 : P.underlying f1.type = some (.slice q)) (hq : P.underlying q = some (.int .i64)) (cq : P.cellsOf q = 1)
    (h : DataW.trod enc P w base (fun _ => true) held fuel s [v] = some x) : ∃ m : List (List Po), V (fun _ => none) (fun _ => False) w (ppss m) v ∧ ∀ l ∈ m, ∀ p ∈ l, ∀ i, i < p.2.length → in64 (p.2.getD i 0) := by
  rcases open_slice1 hs ct h with ⟨hcs, _⟩ | ⟨a, len, cap, m, n, V0, D, Pl, hcs, _, hl, hm, hmm, _, hx⟩
  · simp only [List.cons.injEq, and_true] at hcs
    subst hcs
    exact ⟨[], .lst _ _ _ _ _ _ (fun _ => undef) (Nat.le_refl _) (fun h => by cases h) (Nat.zero_le _) rfl (fun h => absurd rfl h) (fun i hi => by simp at hi), fun p hp => by cases hp⟩
  · simp only [List.cons.injEq, and_true] at hcs
    subst hcs
    simp only [if_true] at hmm
    subst hmm
    obtain ⟨F, hF⟩ := choose_lt (fun i hi => open_pps ht he ce o0 o1 c0 c1 h0 h1 hq cq (hx i hi).2)
    have hlen : ((List.range len).map F).length = len := by simp
    refine ⟨(List.range len).map F, ?_, fun l hl2 => ?_⟩
    · unfold ppss
      rw [hlen]
      refine V.of_cells (u := V0) hl hm (by simp) (fun i hi => (hx i (by omega)).1) (fun i hi => ?_)
      have ef : (((List.range len).map F).map pps).getD i .junk = pps (F i) := by simp [List.getD, show i < len by omega]
      rw [ef]
      exact (hF i (by omega)).1
    · obtain ⟨i, hi, rfl⟩ := List.mem_map.1 hl2
      exact (hF i (by have := List.mem_range.1 hi; omega)).2
end Go.Proofs.Ytehilackpaejnaa
