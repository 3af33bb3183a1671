/-
  Laws for slices of one-cell elements: s[k:], s[:k], s[i:j]; append of one element to a row of the call's own; rows of the call's own read as lists. Nothing of the program is here.
-/
import Derived.Test.YthacglggkgmbhaaGGroupOrbitsAA
import Derived.Maps.AppendAt
import Derived.Laws.OwnMore
import Derived.Maps.Range
import Derived.Test.YthacglggkgmbhaaGGroupOrbitsAS
import Derived.Deep.OwnRows
set_option linter.unusedVariables false
set_option linter.unusedSimpArgs false
namespace Go.Proofs.Ythacglggkgmbhaa
open Go.RowKit

/-- The address of s[k:], as the model has it. -/
def cutAt (A : Option Addr) (cap k : Nat) : Option Addr := if cap = k then A else A.map (·.add k)

theorem IsInts.cut {w : World} {A : Option Addr} {cap : Nat} {xs : List Int} (h : IsInts w A cap xs) {k : Nat} (hk : k ≤ xs.length) : IsInts w (cutAt A cap k) (cap - k) (xs.drop k) := by
  have h1 := h.len
  refine ⟨by simp; omega, by have := h.cap_le; omega, fun i hi => ?_, fun hx => ?_⟩
  · have := h.bd (k + i) (by simp at hi; omega)
    simpa [List.getD] using this
  · have hl : k < xs.length := by
      apply Classical.byContradiction; intro hc
      exact hx (List.drop_eq_nil_of_le (by omega))
    obtain ⟨b, o, rfl, hb, hc⟩ := h.row (by intro e; simp [e] at hl)
    refine ⟨b, o + k, ?_, hb, fun i hi => ?_⟩
    · unfold cutAt
      rw [if_neg (by omega)]
      simp only [Option.map_some, Addr.add]
      split
      · rename_i e; subst e; rfl
      · rfl
    · have := hc (k + i) (by simp at hi; omega)
      rw [← Nat.add_assoc] at this
      simpa [List.getD] using this
theorem IsInts.take {w : World} {A : Option Addr} {cap : Nat} {xs : List Int} (h : IsInts w A cap xs) (k : Nat) : IsInts w A cap (xs.take k) := by
  have h1 := h.len
  refine ⟨by simp; omega, h.cap_le, fun i hi => ?_, fun hx => ?_⟩
  · simp at hi
    have := h.bd i (by omega)
    first | (simp [List.getD, List.getElem?_take, show i < k by omega]; done) | simpa [List.getD, List.getElem?_take, show i < k by omega] using this
  · obtain ⟨b, o, rfl, hb, hc⟩ := h.row (by rintro rfl; simp at hx)
    refine ⟨b, o, rfl, hb, fun i hi => ?_⟩
    simp at hi
    have := hc i (by omega)
    first | (simp [List.getD, List.getElem?_take, show i < k by omega]; done) | simpa [List.getD, List.getElem?_take, show i < k by omega] using this
theorem IsInts.nil (w : World) (A : Option Addr) (cap : Nat) (h : cap ≤ 9223372036854775807) : IsInts w A cap [] := ⟨by simp, h, fun i hi => by simp at hi, fun h => absurd rfl h⟩

section
variable {P : Program} (w : World) {ops : Array Oper} {rest : List Oper} {o : Oper} {a : Act} {Q : Exit → Act → World → Prop}
end


/-! ### a row of the call's own -/
/-- The facts on an element type, off the program's table. -/
structure Elem1 (P : Program) (t e : TypeId) (z : Value) (bytes : Nat) : Prop where
  ht : P.underlying t = some (.slice e)
  hi : (P.info? e).map (fun i => (i.zero, i.size, i.bytes)) = some (some z, 1, bytes)
  hz : z.cells.size = 1
  hb : bytes ≤ 64

section
variable {P : Program} (w : World) {ops : Array Oper} {rest : List Oper} {o : Oper} {a : Act} {Q : Exit → Act → World → Prop}
end

def lenOf : Value → Nat | .slice _ n _ => n | _ => 0
theorem cell_lt {w : World} {b o : Nat} {v : Value} (h : w.cell? ⟨b, o, none⟩ = some v) : b < w.heap.size := by
  rcases Nat.lt_or_ge b w.heap.size with hlt | hge
  · exact hlt
  · simp [World.cell?, Array.getElem?_eq_none hge] at h
theorem cell_spot {w : World} {a : Addr} {v : Value} (h : w.cell? a = some v) : a.spot = none := by
  unfold World.cell? at h
  split at h
  · split at h
    · cases h
    · rename_i hs; simpa using hs
  · cases h
/-- What the row's own frame hands over of an argument []int. -/
theorem ints_of_row {w : World} {a : Option Addr} {len cap : Nat} {zs : List Int}
    (h : (a = none ∧ len = 0 ∧ cap = 0 ∧ zs = []) ∨ ∃ x, a = some x ∧ len ≤ cap ∧ cap ≤ maxLen ∧ zs.length = cap ∧ (∀ i, i < zs.length → w.cell? (x.add i) = some (.int .i64 (zs.getD i 0))) ∧ ∀ n ∈ zs, (Lit.int .i64 n).wf = true) :
    ∃ xs : List Int, xs.length = len ∧ IsInts w a cap xs := by
  rcases h with ⟨rfl, rfl, rfl, rfl⟩ | ⟨x, rfl, hl, hm, hz, hc, hw⟩
  · exact ⟨[], rfl, IsInts.nil _ _ _ (by omega)⟩
  · have hlen : (zs.take len).length = len := by simp; omega
    unfold maxLen at hm
    refine ⟨zs.take len, hlen, by omega, by omega, fun i hi => ?_, fun hx => ?_⟩
    · have hi' : i < zs.length := by simp at hi; omega
      have := hw _ (List.getElem_mem hi')
      rw [getD_lt 0 hi, List.getElem_take]
      simp [Lit.wf, IntKind.min, IntKind.max, IntKind.signed, IntKind.bits] at this
      exact ⟨by omega, by omega⟩
    · have h0 : 0 < zs.length := by
        rcases Nat.eq_zero_or_pos zs.length with e | e
        · exact absurd (by have := List.eq_nil_of_length_eq_zero e; subst this; exact List.take_nil) hx
        · exact e
      have hs := cell_spot (hc 0 h0)
      have hc0 := hc 0 h0
      obtain ⟨b, o, sp⟩ := x
      simp [Addr.add] at hs
      subst hs
      refine ⟨b, o, rfl, cell_lt (by simpa [Addr.add] using hc0), fun i hi => ?_⟩
      have hi' : i < zs.length := by simp at hi; omega
      have := hc i hi'
      rw [getD_lt 0 hi, List.getElem_take, ← getD_lt 0 hi']
      by_cases e : i = 0
      · subst e; simpa [Addr.add] using this
      · simpa [Addr.add, e] using this

end Go.Proofs.Ythacglggkgmbhaa

/-
  Slices of slices of ints. Nothing of the program is here.
-/
set_option linter.unusedVariables false
set_option linter.unusedSimpArgs false
namespace Go.Proofs.Ythacglggkgmbhaa
open Go.RowKit

/-- If the address is not nil, its block is a row of elements of type e. -/
def BlkTy (w : World) (A : Option Addr) (e : TypeId) : Prop := ∀ b o, A = some ⟨b, o, none⟩ → ∃ cs fr, w.heap[b]? = some (.cells cs e fr)

theorem BlkTy.kept {w w' : World} {A : Option Addr} {e : TypeId} {row : Option Nat} (h : BlkTy w A e) (hg : w.grownBy w' row) (hr : ∀ g, row = some g → ∃ cs t fr, w.heap[g]? = some (.cells cs t fr) ∧ t ≠ e) : BlkTy w' A e := by
  intro b o hA
  obtain ⟨cs, fr, hb⟩ := h b o hA
  have hlt : b < w.heap.size := (Array.getElem?_eq_some_iff.1 hb).1
  refine ⟨cs, fr, (hg.block b hlt ?_).trans hb⟩
  intro e'
  obtain ⟨cs', t, fr', hb', hne⟩ := hr b e'.symm
  rw [hb] at hb'
  cases hb'
  exact hne rfl

theorem IsInts.kept {w w' : World} {A : Option Addr} {cap : Nat} {xs : List Int} {row : Option Nat} (h : IsInts w A cap xs) (hg : w.grownBy w' row) (hne : ∀ b o, A = some ⟨b, o, none⟩ → row ≠ some b) : IsInts w' A cap xs :=
  ⟨h.len, h.cap_le, h.bd, fun hx => by
    obtain ⟨b, o, e, hl, hc⟩ := h.row hx
    exact ⟨b, o, e, Nat.lt_of_lt_of_le hl hg.size, fun i hi => (World.cell?_of_block (a := ⟨b, o + i, none⟩) (hg.block b hl (fun e' => hne b o e e'.symm))).trans (hc i hi)⟩⟩
theorem IsInts.keptTy {w w' : World} {A : Option Addr} {cap : Nat} {xs : List Int} {row : Option Nat} {e : TypeId} (h : IsInts w A cap xs) (ht : BlkTy w A e) (hg : w.grownBy w' row) (hr : ∀ g, row = some g → ∃ cs t fr, w.heap[g]? = some (.cells cs t fr) ∧ t ≠ e) : IsInts w' A cap xs :=
  h.kept hg fun b o hA e' => by
    obtain ⟨cs, fr, hb⟩ := ht b o hA
    obtain ⟨cs', t, fr', hb', hne⟩ := hr b e'
    rw [hb] at hb'
    cases hb'
    exact hne rfl

/-- The block of a row of the call's own has the row's type. -/
theorem own_ty {w : World} {base : Nat} {e : TypeId} {n : Nat} {v : Value} {vs : List Value} {size : Nat} (h : w.ownsRow base e size v n vs) : ∀ g, v.ownBlock = some g → ∃ cs fr, w.heap[g]? = some (.cells cs e fr) := by
  intro g hg
  rcases h.2 with ⟨rfl, _⟩ | ⟨g', cap, cur, rfl, _, hh, _⟩
  · simp [Value.ownBlock] at hg
  · simp [Value.ownBlock] at hg
    subst hg
    exact ⟨_, _, hh⟩
/-- The value '.slice A yss.length cap' reads as the list yss of lists of ints. -/
structure IsIntss (w : World) (A : Option Addr) (cap : Nat) (yss : List (List Int)) : Prop where
  len : yss.length ≤ cap
  cap_le : cap ≤ 9223372036854775807
  row : yss ≠ [] → ∃ b o, A = some ⟨b, o, none⟩ ∧ b < w.heap.size ∧ ∀ i, i < yss.length → ∃ Ai ci, w.cell? ⟨b, o + i, none⟩ = some (.slice Ai (yss.getD i []).length ci) ∧ IsInts w Ai ci (yss.getD i [])

theorem IsIntss.below {w w' : World} {A : Option Addr} {cap : Nat} {yss : List (List Int)} {B : Nat} (h : IsIntss w A cap yss) (hb : Below B w w') (hB : w.heap.size ≤ B) : IsIntss w' A cap yss :=
  ⟨h.len, h.cap_le, fun hx => by
    obtain ⟨b, o, e, hl, hc⟩ := h.row hx
    refine ⟨b, o, e, Nat.lt_of_lt_of_le hl hb.size, fun i hi => ?_⟩
    obtain ⟨Ai, ci, h1, h2⟩ := hc i hi
    exact ⟨Ai, ci, (hb.cell (p := ⟨b, o + i, none⟩) (by show b < B; omega)).trans h1, h2.below hb hB⟩⟩

/-- v is a slice of the call's own (element type eS) of slices of ints (element type eI) of the call's own. -/
def OwnIntss (w : World) (B : Nat) (eS eI : TypeId) (v : Value) (yss : List (List Int)) : Prop :=
  ∃ vs : List Value, w.ownsRow B eS 1 v yss.length vs ∧ ∀ i, i < yss.length → ∃ Ai ci, vs[i]? = some (.slice Ai (yss.getD i []).length ci) ∧ IsInts w Ai ci (yss.getD i []) ∧ BlkTy w Ai eI

theorem OwnIntss.nil (w : World) (B : Nat) (eS eI : TypeId) : OwnIntss w B eS eI (.slice none 0 0) [] := ⟨[], World.ownsRow_nil _ _ _ _, fun i hi => by simp at hi⟩
theorem OwnIntss.kept {w w' : World} {B : Nat} {eS eI : TypeId} {v : Value} {yss : List (List Int)} {row : Option Nat} (h : OwnIntss w B eS eI v yss) (hg : w.grownBy w' row)
    (hr : ∀ g, row = some g → ∃ cs t fr, w.heap[g]? = some (.cells cs t fr) ∧ t ≠ eS ∧ t ≠ eI) : OwnIntss w' B eS eI v yss := by
  obtain ⟨vs, h1, h2⟩ := h
  refine ⟨vs, h1.kept hg ?_, fun i hi => ?_⟩
  · cases hv : v.ownBlock with
    | none => exact .inl rfl
    | some g =>
      refine .inr fun e' => ?_
      obtain ⟨cs, fr, hb⟩ := own_ty h1 g hv
      obtain ⟨cs', t, fr', hb', hne, _⟩ := hr g e'.symm
      rw [hb] at hb'
      cases hb'
      exact hne rfl
  · obtain ⟨Ai, ci, q1, q2, q3⟩ := h2 i hi
    have hr' : ∀ g, row = some g → ∃ cs t fr, w.heap[g]? = some (.cells cs t fr) ∧ t ≠ eI := fun g hg' => by
      obtain ⟨cs, t, fr, hb, _, hne⟩ := hr g hg'
      exact ⟨cs, t, fr, hb, hne⟩
    exact ⟨Ai, ci, q1, q2.keptTy q3 hg hr', q3.kept hg hr'⟩
/-- behind 'out = append(out, y)' -/
theorem OwnIntss.push {w w' : World} {B : Nat} {eS eI : TypeId} {v v' : Value} {yss : List (List Int)} {A : Option Addr} {c : Nat} {ys : List Int} {vs : List Value}
    (h1 : w.ownsRow B eS 1 v yss.length vs) (h2 : ∀ i, i < yss.length → ∃ Ai ci, vs[i]? = some (.slice Ai (yss.getD i []).length ci) ∧ IsInts w Ai ci (yss.getD i []) ∧ BlkTy w Ai eI)
    (hy : IsInts w A c ys) (ht : BlkTy w A eI) (hne : eS ≠ eI)
    (ho : w'.ownsRow B eS 1 v' (yss.length + 1) (vs ++ [.slice A ys.length c])) (hg : w.grownBy w' v.ownBlock) : OwnIntss w' B eS eI v' (yss ++ [ys]) := by
  have hl : vs.length = yss.length := by simpa using h1.1
  have hr' : ∀ g, v.ownBlock = some g → ∃ cs t fr, w.heap[g]? = some (.cells cs t fr) ∧ t ≠ eI := fun g hg' => by
    obtain ⟨cs, fr, hb⟩ := own_ty h1 g hg'
    exact ⟨cs, eS, fr, hb, hne⟩
  refine ⟨_, by simpa using ho, fun i hi => ?_⟩
  by_cases e : i < yss.length
  · obtain ⟨Ai, ci, q1, q2, q3⟩ := h2 i e
    have e1 : (yss ++ [ys]).getD i [] = yss.getD i [] := by simp [List.getD, List.getElem?_append_left e]
    rw [e1]
    exact ⟨Ai, ci, by rw [List.getElem?_append_left (by omega)]; exact q1, q2.keptTy q3 hg hr', q3.kept hg hr'⟩
  · obtain rfl : i = yss.length := by simp at hi; omega
    have e1 : (yss ++ [ys]).getD yss.length [] = ys := by simp [List.getD]
    rw [e1]
    exact ⟨A, c, by rw [← hl]; simp, hy.keptTy ht hg hr', ht.kept hg hr'⟩
theorem IsInts.alloc {w : World} {A : Option Addr} {cap : Nat} {xs : List Int} (h : IsInts w A cap xs) (o : Obj) : IsInts (w.alloc o) A cap xs := h.kept (World.grownBy_alloc _ _ none) (by simp)
theorem BlkTy.alloc {w : World} {A : Option Addr} {e : TypeId} (h : BlkTy w A e) (o : Obj) : BlkTy (w.alloc o) A e := h.kept (World.grownBy_alloc _ _ none) (by simp)
theorem OwnIntss.reads {w : World} {B : Nat} {eS eI : TypeId} {v : Value} {yss : List (List Int)} (h : OwnIntss w B eS eI v yss) : ∃ A cap, v = .slice A yss.length cap ∧ IsIntss w A cap yss := by
  obtain ⟨vs, h1, h2⟩ := h
  have hl : vs.length = yss.length := by simpa using h1.1
  have hlt := h1.lt
  rcases h1.2 with ⟨rfl, h0⟩ | ⟨g, cap, cur, rfl, hg, hh, hn, hc, hs, ht⟩
  · have : yss = [] := List.eq_nil_of_length_eq_zero h0
    subst this
    exact ⟨none, 0, rfl, by simp, by omega, fun h => absurd rfl h⟩
  · refine ⟨some ⟨g, 0, none⟩, cap, rfl, hn, hc, fun _ => ⟨g, 0, rfl, (hlt g rfl).2, fun i hi => ?_⟩⟩
    obtain ⟨Ai, ci, q1, q2, q3⟩ := h2 i hi
    refine ⟨Ai, ci, ?_, q2⟩
    have := h1.cells (g := g) rfl i _ q1
    by_cases e : i = 0
    · subst e; simpa [Addr.add] using this
    · simpa [Addr.add, e] using this
end Go.Proofs.Ythacglggkgmbhaa
