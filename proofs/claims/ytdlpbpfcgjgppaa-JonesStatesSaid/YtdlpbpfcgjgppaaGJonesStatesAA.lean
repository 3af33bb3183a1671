/- Facts and contracts that the claim uses. No condition of its own. -/
import Derived.WalkKit
import Derived.WalkSpells
import Derived.WalkLawsBesides
import Derived.Lib.Hide
import Derived.Calls
import Derived.Maps.AppendAt
import Derived.Laws.OwnMore
import Derived.Maps.Range
import Derived.Deep.OwnRows
import Derived.Sort.Row
import Derived.Shelf.Small.Bits
import Derived.Shelf.Small.Wraps
import Derived.Shelf.Strconv.Itoa0
import Derived.Shelf.Sort.Plain
import Derived.Shelf.Slices.Turned
import Derived.Shelf.Slices.Equal
import Derived.Ground.Names2Prog
import Derived.Shelf.Slices.Clone
import Derived.Shelf.Slices.SearchI
import Derived.Shelf.Slices.Delete
import Derived.Shelf.Slices.Cells
import Derived.Shelf.Slices.In.SortNone
import Derived.Shelf.Slices.Empties
import Derived.Shelf.Slices.Empties2
import Derived.Test.YtdlpbpfcgjgppaaProg
import Derived.Test.YtdlpbpfcgjgppaaRows
set_option linter.unusedVariables false
set_option linter.unusedSimpArgs false
namespace Go.Proofs.Ytdlpbpfcgjgppaa
open Go.RowKit
def Row (w : World) (A : Option Addr) (vs : List Value) : Prop :=
  vs ≠ [] → ∃ b o, A = some ⟨b, o, none⟩ ∧ b < w.heap.size ∧ ∀ i, i < vs.length → w.cell? ⟨b, o + i, none⟩ = some (vs.getD i undef)
def in64 (x : Int) : Prop := -9223372036854775808 ≤ x ∧ x ≤ 9223372036854775807
structure IsInts (w : World) (A : Option Addr) (cap : Nat) (xs : List Int) : Prop where
  len : xs.length ≤ cap
  cap_le : cap ≤ 9223372036854775807
  bd : ∀ i, i < xs.length → in64 (xs.getD i 0)
  row : xs ≠ [] → ∃ b o, A = some ⟨b, o, none⟩ ∧ b < w.heap.size ∧ ∀ i, i < xs.length → w.cell? ⟨b, o + i, none⟩ = some (.int .i64 (xs.getD i 0))
theorem IsInts.below {w w' : World} {A : Option Addr} {cap : Nat} {xs : List Int} {B : Nat} (h : IsInts w A cap xs) (hb : Below B w w') (hB : w.heap.size ≤ B) : IsInts w' A cap xs :=
  ⟨h.len, h.cap_le, h.bd, fun hx => by
    obtain ⟨b, o, e, hl, hc⟩ := h.row hx
    exact ⟨b, o, e, Nat.lt_of_lt_of_le hl (Nat.le_trans (Nat.le_refl _) hb.size), fun i hi => (hb.cell (p := ⟨b, o + i, none⟩) (by show b < B; omega)).trans (hc i hi)⟩⟩
end Go.Proofs.Ytdlpbpfcgjgppaa

/- Facts and contracts that the claim uses. No condition of its own. -/
set_option linter.unusedVariables false
set_option linter.unusedSimpArgs false
namespace Go.Proofs.Ytdlpbpfcgjgppaa
theorem getD_lt {α : Type} {xs : List α} {k : Nat} (d : α) (h : k < xs.length) : xs.getD k d = xs[k] := by
  simp [List.getD, List.getElem?_eq_getElem h]
end Go.Proofs.Ytdlpbpfcgjgppaa

/- Facts and contracts that the claim uses. No condition of its own. -/
set_option linter.unusedVariables false
set_option linter.unusedSimpArgs false
namespace Go.Proofs.Ytdlpbpfcgjgppaa
open Go.RowKit
def cutAt (A : Option Addr) (cap k : Nat) : Option Addr := if cap = k then A else A.map (·.add k)
theorem IsInts.cut {w : World} {A : Option Addr} {cap : Nat} {xs : List Int} (h : IsInts w A cap xs) {k : Nat} (hk : k ≤ xs.length) : IsInts w (cutAt A cap k) (cap - k) (xs.drop k) := by
  have h1 := h.len
  refine ⟨by simp; omega, by have := h.cap_le; omega, fun i hi => ?_, fun hx => ?_⟩
  · have := h.bd (k + i) (by simp at hi; omega)
    simpa [List.getD] using this
  · have hl : k < xs.length := by
      apply Classical.byContradiction; intro hc
      exact hx (List.drop_eq_nil_of_le (by omega))
    obtain ⟨b, o, rfl, hb, hc⟩ := h.row (by intro e; simp [e] at hl)
    refine ⟨b, o + k, ?_, hb, fun i hi => ?_⟩
    · unfold cutAt
      rw [if_neg (by omega)]
      simp only [Option.map_some, Addr.add]
      split
      · rename_i e; subst e; rfl
      · rfl
    · have := hc (k + i) (by simp at hi; omega)
      rw [← Nat.add_assoc] at this
      simpa [List.getD] using this
theorem IsInts.take {w : World} {A : Option Addr} {cap : Nat} {xs : List Int} (h : IsInts w A cap xs) (k : Nat) : IsInts w A cap (xs.take k) := by
  have h1 := h.len
  refine ⟨by simp; omega, h.cap_le, fun i hi => ?_, fun hx => ?_⟩
  · simp at hi
    have := h.bd i (by omega)
    first | (simp [List.getD, List.getElem?_take, show i < k by omega]; done) | simpa [List.getD, List.getElem?_take, show i < k by omega] using this
  · obtain ⟨b, o, rfl, hb, hc⟩ := h.row (by rintro rfl; simp at hx)
    refine ⟨b, o, rfl, hb, fun i hi => ?_⟩
    simp at hi
    have := hc i (by omega)
    first | (simp [List.getD, List.getElem?_take, show i < k by omega]; done) | simpa [List.getD, List.getElem?_take, show i < k by omega] using this
theorem IsInts.nil (w : World) (A : Option Addr) (cap : Nat) (h : cap ≤ 9223372036854775807) : IsInts w A cap [] := ⟨by simp, h, fun i hi => by simp at hi, fun h => absurd rfl h⟩
section
variable {P : Program} (w : World) {ops : Array Oper} {rest : List Oper} {o : Oper} {a : Act} {Q : Exit → Act → World → Prop}
end
/-! ### a row of the call's own -/
structure Elem1 (P : Program) (t e : TypeId) (z : Value) (bytes : Nat) : Prop where
  ht : P.underlying t = some (.slice e)
  hi : (P.info? e).map (fun i => (i.zero, i.size, i.bytes)) = some (some z, 1, bytes)
  hz : z.cells.size = 1
  hb : bytes ≤ 64
section
variable {P : Program} (w : World) {ops : Array Oper} {rest : List Oper} {o : Oper} {a : Act} {Q : Exit → Act → World → Prop}
end
def lenOf : Value → Nat | .slice _ n _ => n | _ => 0
theorem cell_lt {w : World} {b o : Nat} {v : Value} (h : w.cell? ⟨b, o, none⟩ = some v) : b < w.heap.size := by
  rcases Nat.lt_or_ge b w.heap.size with hlt | hge
  · exact hlt
  · simp [World.cell?, Array.getElem?_eq_none hge] at h
theorem cell_spot {w : World} {a : Addr} {v : Value} (h : w.cell? a = some v) : a.spot = none := by
  unfold World.cell? at h
  split at h
  · split at h
    · cases h
    · rename_i hs; simpa using hs
  · cases h
theorem ints_of_row {w : World} {a : Option Addr} {len cap : Nat} {zs : List Int}
    (h : (a = none ∧ len = 0 ∧ cap = 0 ∧ zs = []) ∨ ∃ x, a = some x ∧ len ≤ cap ∧ cap ≤ maxLen ∧ zs.length = cap ∧ (∀ i, i < zs.length → w.cell? (x.add i) = some (.int .i64 (zs.getD i 0))) ∧ ∀ n ∈ zs, (Lit.int .i64 n).wf = true) :
    ∃ xs : List Int, xs.length = len ∧ IsInts w a cap xs := by
  rcases h with ⟨rfl, rfl, rfl, rfl⟩ | ⟨x, rfl, hl, hm, hz, hc, hw⟩
  · exact ⟨[], rfl, IsInts.nil _ _ _ (by omega)⟩
  · have hlen : (zs.take len).length = len := by simp; omega
    unfold maxLen at hm
    refine ⟨zs.take len, hlen, by omega, by omega, fun i hi => ?_, fun hx => ?_⟩
    · have hi' : i < zs.length := by simp at hi; omega
      have := hw _ (List.getElem_mem hi')
      rw [getD_lt 0 hi, List.getElem_take]
      simp [Lit.wf, IntKind.min, IntKind.max, IntKind.signed, IntKind.bits] at this
      exact ⟨by omega, by omega⟩
    · have h0 : 0 < zs.length := by
        rcases Nat.eq_zero_or_pos zs.length with e | e
        · exact absurd (by have := List.eq_nil_of_length_eq_zero e; subst this; exact List.take_nil) hx
        · exact e
      have hs := cell_spot (hc 0 h0)
      have hc0 := hc 0 h0
      obtain ⟨b, o, sp⟩ := x
      simp [Addr.add] at hs
      subst hs
      refine ⟨b, o, rfl, cell_lt (by simpa [Addr.add] using hc0), fun i hi => ?_⟩
      have hi' : i < zs.length := by simp at hi; omega
      have := hc i hi'
      rw [getD_lt 0 hi, List.getElem_take, ← getD_lt 0 hi']
      by_cases e : i = 0
      · subst e; simpa [Addr.add] using this
      · simpa [Addr.add, e] using this
end Go.Proofs.Ytdlpbpfcgjgppaa

/- Facts and contracts that the claim uses. No condition of its own. -/
set_option linter.unusedVariables false
set_option linter.unusedSimpArgs false
namespace Go.Proofs.Ytdlpbpfcgjgppaa
open Go.RowKit
def BlkTy (w : World) (A : Option Addr) (e : TypeId) : Prop := ∀ b o, A = some ⟨b, o, none⟩ → ∃ cs fr, w.heap[b]? = some (.cells cs e fr)
theorem BlkTy.kept {w w' : World} {A : Option Addr} {e : TypeId} {row : Option Nat} (h : BlkTy w A e) (hg : w.grownBy w' row) (hr : ∀ g, row = some g → ∃ cs t fr, w.heap[g]? = some (.cells cs t fr) ∧ t ≠ e) : BlkTy w' A e := by
  intro b o hA
  obtain ⟨cs, fr, hb⟩ := h b o hA
  have hlt : b < w.heap.size := (Array.getElem?_eq_some_iff.1 hb).1
  refine ⟨cs, fr, (hg.block b hlt ?_).trans hb⟩
  intro e'
  obtain ⟨cs', t, fr', hb', hne⟩ := hr b e'.symm
  rw [hb] at hb'
  cases hb'
  exact hne rfl
theorem IsInts.kept {w w' : World} {A : Option Addr} {cap : Nat} {xs : List Int} {row : Option Nat} (h : IsInts w A cap xs) (hg : w.grownBy w' row) (hne : ∀ b o, A = some ⟨b, o, none⟩ → row ≠ some b) : IsInts w' A cap xs :=
  ⟨h.len, h.cap_le, h.bd, fun hx => by
    obtain ⟨b, o, e, hl, hc⟩ := h.row hx
    exact ⟨b, o, e, Nat.lt_of_lt_of_le hl hg.size, fun i hi => (World.cell?_of_block (a := ⟨b, o + i, none⟩) (hg.block b hl (fun e' => hne b o e e'.symm))).trans (hc i hi)⟩⟩
theorem IsInts.keptTy {w w' : World} {A : Option Addr} {cap : Nat} {xs : List Int} {row : Option Nat} {e : TypeId} (h : IsInts w A cap xs) (ht : BlkTy w A e) (hg : w.grownBy w' row) (hr : ∀ g, row = some g → ∃ cs t fr, w.heap[g]? = some (.cells cs t fr) ∧ t ≠ e) : IsInts w' A cap xs :=
  h.kept hg fun b o hA e' => by
    obtain ⟨cs, fr, hb⟩ := ht b o hA
    obtain ⟨cs', t, fr', hb', hne⟩ := hr b e'
    rw [hb] at hb'
    cases hb'
    exact hne rfl
theorem own_ty {w : World} {base : Nat} {e : TypeId} {n : Nat} {v : Value} {vs : List Value} {size : Nat} (h : w.ownsRow base e size v n vs) : ∀ g, v.ownBlock = some g → ∃ cs fr, w.heap[g]? = some (.cells cs e fr) := by
  intro g hg
  rcases h.2 with ⟨rfl, _⟩ | ⟨g', cap, cur, rfl, _, hh, _⟩
  · simp [Value.ownBlock] at hg
  · simp [Value.ownBlock] at hg
    subst hg
    exact ⟨_, _, hh⟩
structure IsIntss (w : World) (A : Option Addr) (cap : Nat) (yss : List (List Int)) : Prop where
  len : yss.length ≤ cap
  cap_le : cap ≤ 9223372036854775807
  row : yss ≠ [] → ∃ b o, A = some ⟨b, o, none⟩ ∧ b < w.heap.size ∧ ∀ i, i < yss.length → ∃ Ai ci, w.cell? ⟨b, o + i, none⟩ = some (.slice Ai (yss.getD i []).length ci) ∧ IsInts w Ai ci (yss.getD i [])
theorem IsIntss.below {w w' : World} {A : Option Addr} {cap : Nat} {yss : List (List Int)} {B : Nat} (h : IsIntss w A cap yss) (hb : Below B w w') (hB : w.heap.size ≤ B) : IsIntss w' A cap yss :=
  ⟨h.len, h.cap_le, fun hx => by
    obtain ⟨b, o, e, hl, hc⟩ := h.row hx
    refine ⟨b, o, e, Nat.lt_of_lt_of_le hl hb.size, fun i hi => ?_⟩
    obtain ⟨Ai, ci, h1, h2⟩ := hc i hi
    exact ⟨Ai, ci, (hb.cell (p := ⟨b, o + i, none⟩) (by show b < B; omega)).trans h1, h2.below hb hB⟩⟩
def OwnIntss (w : World) (B : Nat) (eS eI : TypeId) (v : Value) (yss : List (List Int)) : Prop :=
  ∃ vs : List Value, w.ownsRow B eS 1 v yss.length vs ∧ ∀ i, i < yss.length → ∃ Ai ci, vs[i]? = some (.slice Ai (yss.getD i []).length ci) ∧ IsInts w Ai ci (yss.getD i []) ∧ BlkTy w Ai eI
theorem OwnIntss.nil (w : World) (B : Nat) (eS eI : TypeId) : OwnIntss w B eS eI (.slice none 0 0) [] := ⟨[], World.ownsRow_nil _ _ _ _, fun i hi => by simp at hi⟩
theorem OwnIntss.kept {w w' : World} {B : Nat} {eS eI : TypeId} {v : Value} {yss : List (List Int)} {row : Option Nat} (h : OwnIntss w B eS eI v yss) (hg : w.grownBy w' row)
    (hr : ∀ g, row = some g → ∃ cs t fr, w.heap[g]? = some (.cells cs t fr) ∧ t ≠ eS ∧ t ≠ eI) : OwnIntss w' B eS eI v yss := by
  obtain ⟨vs, h1, h2⟩ := h
  refine ⟨vs, h1.kept hg ?_, fun i hi => ?_⟩
  · cases hv : v.ownBlock with
    | none => exact .inl rfl
    | some g =>
      refine .inr fun e' => ?_
      obtain ⟨cs, fr, hb⟩ := own_ty h1 g hv
      obtain ⟨cs', t, fr', hb', hne, _⟩ := hr g e'.symm
      rw [hb] at hb'
      cases hb'
      exact hne rfl
  · obtain ⟨Ai, ci, q1, q2, q3⟩ := h2 i hi
    have hr' : ∀ g, row = some g → ∃ cs t fr, w.heap[g]? = some (.cells cs t fr) ∧ t ≠ eI := fun g hg' => by
      obtain ⟨cs, t, fr, hb, _, hne⟩ := hr g hg'
      exact ⟨cs, t, fr, hb, hne⟩
    exact ⟨Ai, ci, q1, q2.keptTy q3 hg hr', q3.kept hg hr'⟩
theorem OwnIntss.push {w w' : World} {B : Nat} {eS eI : TypeId} {v v' : Value} {yss : List (List Int)} {A : Option Addr} {c : Nat} {ys : List Int} {vs : List Value}
    (h1 : w.ownsRow B eS 1 v yss.length vs) (h2 : ∀ i, i < yss.length → ∃ Ai ci, vs[i]? = some (.slice Ai (yss.getD i []).length ci) ∧ IsInts w Ai ci (yss.getD i []) ∧ BlkTy w Ai eI)
    (hy : IsInts w A c ys) (ht : BlkTy w A eI) (hne : eS ≠ eI)
    (ho : w'.ownsRow B eS 1 v' (yss.length + 1) (vs ++ [.slice A ys.length c])) (hg : w.grownBy w' v.ownBlock) : OwnIntss w' B eS eI v' (yss ++ [ys]) := by
  have hl : vs.length = yss.length := by simpa using h1.1
  have hr' : ∀ g, v.ownBlock = some g → ∃ cs t fr, w.heap[g]? = some (.cells cs t fr) ∧ t ≠ eI := fun g hg' => by
    obtain ⟨cs, fr, hb⟩ := own_ty h1 g hg'
    exact ⟨cs, eS, fr, hb, hne⟩
  refine ⟨_, by simpa using ho, fun i hi => ?_⟩
  by_cases e : i < yss.length
  · obtain ⟨Ai, ci, q1, q2, q3⟩ := h2 i e
    have e1 : (yss ++ [ys]).getD i [] = yss.getD i [] := by simp [List.getD, List.getElem?_append_left e]
    rw [e1]
    exact ⟨Ai, ci, by rw [List.getElem?_append_left (by omega)]; exact q1, q2.keptTy q3 hg hr', q3.kept hg hr'⟩
  · obtain rfl : i = yss.length := by simp at hi; omega
    have e1 : (yss ++ [ys]).getD yss.length [] = ys := by simp [List.getD]
    rw [e1]
    exact ⟨A, c, by rw [← hl]; simp, hy.keptTy ht hg hr', ht.kept hg hr'⟩
theorem IsInts.alloc {w : World} {A : Option Addr} {cap : Nat} {xs : List Int} (h : IsInts w A cap xs) (o : Obj) : IsInts (w.alloc o) A cap xs := h.kept (World.grownBy_alloc _ _ none) (by simp)
theorem BlkTy.alloc {w : World} {A : Option Addr} {e : TypeId} (h : BlkTy w A e) (o : Obj) : BlkTy (w.alloc o) A e := h.kept (World.grownBy_alloc _ _ none) (by simp)
theorem OwnIntss.reads {w : World} {B : Nat} {eS eI : TypeId} {v : Value} {yss : List (List Int)} (h : OwnIntss w B eS eI v yss) : ∃ A cap, v = .slice A yss.length cap ∧ IsIntss w A cap yss := by
  obtain ⟨vs, h1, h2⟩ := h
  have hl : vs.length = yss.length := by simpa using h1.1
  have hlt := h1.lt
  rcases h1.2 with ⟨rfl, h0⟩ | ⟨g, cap, cur, rfl, hg, hh, hn, hc, hs, ht⟩
  · have : yss = [] := List.eq_nil_of_length_eq_zero h0
    subst this
    exact ⟨none, 0, rfl, by simp, by omega, fun h => absurd rfl h⟩
  · refine ⟨some ⟨g, 0, none⟩, cap, rfl, hn, hc, fun _ => ⟨g, 0, rfl, (hlt g rfl).2, fun i hi => ?_⟩⟩
    obtain ⟨Ai, ci, q1, q2, q3⟩ := h2 i hi
    refine ⟨Ai, ci, ?_, q2⟩
    have := h1.cells (g := g) rfl i _ q1
    by_cases e : i = 0
    · subst e; simpa [Addr.add] using this
    · simpa [Addr.add, e] using this
end Go.Proofs.Ytdlpbpfcgjgppaa

/- Facts and contracts that the claim uses. No condition of its own. -/
set_option linter.unusedVariables false
set_option linter.unusedSimpArgs false
namespace Go.Proofs.Ytdlpbpfcgjgppaa
open Go.RowKit
structure Mine (w : World) (B : Nat) (A : Option Addr) (cap : Nat) (xs : List Int) : Prop where
  ints : IsInts w A cap xs
  low : ∀ b o, A = some ⟨b, o, none⟩ → B ≤ b ∧ b < w.heap.size
  free : ∀ b o, A = some ⟨b, o, none⟩ → ∀ i, i < xs.length → w.frozen? ⟨b, o + i, none⟩ = false
theorem Mine.kept {w w' : World} {B : Nat} {A : Option Addr} {cap : Nat} {xs : List Int} {row : Option Nat} (h : Mine w B A cap xs) (hg : w.grownBy w' row) (hne : ∀ b o, A = some ⟨b, o, none⟩ → row ≠ some b) : Mine w' B A cap xs :=
  ⟨h.ints.kept hg hne, fun b o hA => ⟨(h.low b o hA).1, Nat.lt_of_lt_of_le (h.low b o hA).2 hg.size⟩, fun b o hA i hi => (World.frozen?_of_block (a := ⟨b, o + i, none⟩) (hg.block b (h.low b o hA).2 (fun e => hne b o hA e.symm))).trans (h.free b o hA i hi)⟩
theorem Mine.alloc {w : World} {B : Nat} {A : Option Addr} {cap : Nat} {xs : List Int} (h : Mine w B A cap xs) (o : Obj) : Mine (w.alloc o) B A cap xs := h.kept (World.grownBy_alloc _ _ none) (by simp)
theorem Mine.below {w w' : World} {B C : Nat} {A : Option Addr} {cap : Nat} {xs : List Int} (h : Mine w B A cap xs) (hb : Below C w w') (hC : w.heap.size ≤ C) : Mine w' B A cap xs :=
  h.kept (row := none) ⟨hb.os, hb.tape, hb.output, hb.size, fun k hk _ => hb.block k (by omega)⟩ (by simp)
theorem Mine.mono {w : World} {B B' : Nat} {A : Option Addr} {cap : Nat} {xs : List Int} (h : Mine w B A cap xs) (hB : B' ≤ B) : Mine w B' A cap xs := ⟨h.ints, fun b o hA => ⟨Nat.le_trans hB (h.low b o hA).1, (h.low b o hA).2⟩, h.free⟩
open Go.Sort in
theorem Mine.holds {w : World} {B b o cap : Nat} {xs : List Int} (h : Mine w B (some ⟨b, o, none⟩) cap xs) : Holds (Value.int .i64) w b o xs.toArray := by
  intro j hj
  have hj' : j < xs.length := by simpa using hj
  obtain ⟨b', o', e, _, hc⟩ := h.ints.row (by rintro rfl; simp at hj')
  cases e
  refine ⟨?_, h.free b o rfl j hj'⟩
  rw [hc j hj', getD_lt 0 hj']
  simp [hj']
open Go.Sort in
theorem Mine.put {w : World} {B b o cap q : Nat} {xs : List Int} (h : Mine w B (some ⟨b, o, none⟩) cap xs) (ys zs : List Int) (hl : (ys ++ zs).length = xs.length) (hbd : ∀ i, i < ys.length → in64 (ys.getD i 0)) :
    Mine (putRow (Value.int .i64) (Sort.ahead w q) b o (ys ++ zs).toArray) B (some ⟨b, o, none⟩) cap ys := by
  have hH := h.holds
  have h1 := h.ints.len
  have hlen : ys.length ≤ xs.length := by simp at hl; omega
  refine ⟨⟨by omega, h.ints.cap_le, hbd, fun hy => ⟨b, o, rfl, ?_, fun i hi => ?_⟩⟩, fun b' o' hA => ?_, fun b' o' hA i hi => ?_⟩
  · simpa using (h.low b o rfl).2
  · rw [cell?_putRow (Value.int .i64) (Sort.ahead w q) b o xs.toArray (ys ++ zs).toArray hH (by simpa using hl) i (by simp; omega)]
    rw [getD_lt 0 hi]
    simp [List.getElem_append_left hi, show i < ys.length + zs.length by omega]
  · cases hA
    have := h.low b o rfl
    exact ⟨this.1, by simpa using this.2⟩
  · cases hA
    simpa using h.free b o rfl i (by omega)
end Go.Proofs.Ytdlpbpfcgjgppaa

/- Facts and contracts that the claim uses. No condition of its own. -/
namespace Go.Proofs
open Go.Shelf
def Try.laysNm223_ren : Go.Shelf.Ren := ⟨fun | 23 => 92 | n => n, fun | 22 => 22 | 3 => 3 | 4 => 4 | 0 => 0 | n => n, fun | n => n⟩
theorem Try.laysNm223 : Go.Proofs.Lays2.n23 Try.prog Try.laysNm223_ren := {
  mixed := by kernel_rfl
  f23 := Try.func92.trans (congrArg some (by kernel_rfl))
  t0 := Try.underlying0
  a0 := Try.isAgg0
  z0 := Try.sizeOf0
  v0 := Try.zeroValue0
  t3 := Try.underlying3
  a3 := Try.isAgg3
  z3 := Try.sizeOf3
  v3 := Try.zeroValue3
  t4 := Try.underlying4
  a4 := Try.isAgg4
  z4 := Try.sizeOf4
  v4 := Try.zeroValue4
  t22 := Try.underlying22
  a22 := Try.isAgg22
  z22 := Try.sizeOf22
  v22 := Try.zeroValue22
  i3 := by kernel_rfl }
open Go.RowKit Go.Lib Go.Sort in
theorem Try.slices_Delete_int (blk off cap i j : Nat) (zs : List Int) (w : World) (hH : Holds (Value.int .i64) w blk off zs.toArray) (hcap : zs.length ≤ cap) (hm : cap ≤ 9223372036854775807) (hij : i ≤ j) (hj : j ≤ zs.length) :
    Calls Try.prog 92 #[.slice (some ⟨blk, off, none⟩) zs.length cap, .int .i64 i, .int .i64 j] w fun e w' => e = .returned (.slice (some ⟨blk, off, none⟩) (zs.length - (j - i)) cap) ∧ ∃ q, w' = putRow (Value.int .i64) (Sort.ahead w q) blk off (zs.take i ++ zs.drop j ++ List.replicate (j - i) 0).toArray := Any.slices_Delete_int Try.laysNm223 blk off cap i j zs w hH hcap hm hij hj
end Go.Proofs

/- Facts and contracts that the claim uses. No condition of its own. -/
set_option linter.unusedVariables false
set_option linter.unusedSimpArgs false
namespace Go.Proofs.Ytdlpbpfcgjgppaa
open Go.RowKit
end Go.Proofs.Ytdlpbpfcgjgppaa
