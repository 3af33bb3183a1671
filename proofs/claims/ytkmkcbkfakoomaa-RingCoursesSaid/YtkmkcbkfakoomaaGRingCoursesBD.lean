/- Facts and contracts that the claim uses. No condition of its own. -/
import Derived.Test.YtkmkcbkfakoomaaGRingCoursesAE
import Derived.Maps.AppendAt
import Derived.Laws.OwnMore
import Derived.Maps.Range
import Derived.Test.YtkmkcbkfakoomaaGRingCoursesAA
set_option linter.unusedVariables false
set_option linter.unusedSimpArgs false
namespace Go.Proofs.Ytkmkcbkfakoomaa
open Go.RowKit
def cutAt (A : Option Addr) (cap k : Nat) : Option Addr := if cap = k then A else A.map (·.add k)
theorem IsInts.cut {w : World} {A : Option Addr} {cap : Nat} {xs : List Int} (h : IsInts w A cap xs) {k : Nat} (hk : k ≤ xs.length) : IsInts w (cutAt A cap k) (cap - k) (xs.drop k) := by
  have h1 := h.len
  refine ⟨by simp; omega, by have := h.cap_le; omega, fun i hi => ?_, fun hx => ?_⟩
  · have := h.bd (k + i) (by simp at hi; omega)
    simpa [List.getD] using this
  · have hl : k < xs.length := by
      apply Classical.byContradiction; intro hc
      exact hx (List.drop_eq_nil_of_le (by omega))
    obtain ⟨b, o, rfl, hb, hc⟩ := h.row (by intro e; simp [e] at hl)
    refine ⟨b, o + k, ?_, hb, fun i hi => ?_⟩
    · unfold cutAt
      rw [if_neg (by omega)]
      simp only [Option.map_some, Addr.add]
      split
      · rename_i e; subst e; rfl
      · rfl
    · have := hc (k + i) (by simp at hi; omega)
      rw [← Nat.add_assoc] at this
      simpa [List.getD] using this
theorem IsInts.take {w : World} {A : Option Addr} {cap : Nat} {xs : List Int} (h : IsInts w A cap xs) (k : Nat) : IsInts w A cap (xs.take k) := by
  have h1 := h.len
  refine ⟨by simp; omega, h.cap_le, fun i hi => ?_, fun hx => ?_⟩
  · simp at hi
    have := h.bd i (by omega)
    first | (simp [List.getD, List.getElem?_take, show i < k by omega]; done) | simpa [List.getD, List.getElem?_take, show i < k by omega] using this
  · obtain ⟨b, o, rfl, hb, hc⟩ := h.row (by rintro rfl; simp at hx)
    refine ⟨b, o, rfl, hb, fun i hi => ?_⟩
    simp at hi
    have := hc i (by omega)
    first | (simp [List.getD, List.getElem?_take, show i < k by omega]; done) | simpa [List.getD, List.getElem?_take, show i < k by omega] using this
theorem IsInts.recap {w : World} {A : Option Addr} {cap cap' : Nat} {xs : List Int} (h : IsInts w A cap xs) (h1 : xs.length ≤ cap') (h2 : cap' ≤ 9223372036854775807) : IsInts w A cap' xs := ⟨h1, h2, h.bd, h.row⟩
theorem IsInts.nil (w : World) (A : Option Addr) (cap : Nat) (h : cap ≤ 9223372036854775807) : IsInts w A cap [] := ⟨by simp, h, fun i hi => by simp at hi, fun h => absurd rfl h⟩
section
variable {P : Program} (w : World) {ops : Array Oper} {rest : List Oper} {o : Oper} {a : Act} {Q : Exit → Act → World → Prop}
end
/-! ### a row of the call's own -/
structure Elem1 (P : Program) (t e : TypeId) (z : Value) (bytes : Nat) : Prop where
  ht : P.underlying t = some (.slice e)
  hi : (P.info? e).map (fun i => (i.zero, i.size, i.bytes)) = some (some z, 1, bytes)
  hz : z.cells.size = 1
  hb : bytes ≤ 64
section
variable {P : Program} (w : World) {ops : Array Oper} {rest : List Oper} {o : Oper} {a : Act} {Q : Exit → Act → World → Prop}
theorem wpList_append1 (hg : o.guard = none) (s x : Operand) (t e : TypeId) (hop : o.op = .call { callee := .builtin .append, args := #[s, x], argTypes := #[t, t] })
    {z : Value} {bytes : Nat} (he : Elem1 P t e z bytes) (base : Nat) (v : Value) (n : Nat) (vs : List Value) (hs : a.eval s = v) (hown : w.ownsRow base e 1 v n vs)
    (g c : Nat) (hx : a.eval x = .slice (some ⟨g, 0, none⟩) 1 c) (u : Value) (hu : w.cell? ⟨g, 0, none⟩ = some u) (h1 : u.oneCell' = true) (hn : n ≤ 1000000000) (hbase : base ≤ w.heap.size)
    (hK : ∀ v' w', w'.ownsRow base e 1 v' (n + 1) (vs ++ [u]) → w.grownBy w' v.ownBlock → Below base w w' → (v'.ownBlock = v.ownBlock ∨ v'.ownBlock = some w.heap.size) → v' ≠ .slice none 0 0 → wpList P ops Q rest (a.put o.dst v') w') :
    wpList P ops Q (o :: rest) a w := by
  obtain ⟨i, hi, hz, hsz, hby⟩ := info_parts he.hi
  have hb := he.hb
  have hm : n + 1 ≤ maxLen := by unfold maxLen; omega
  have hbytes : (n + 1) * bytes ≤ 140737488355328 := Nat.le_trans (Nat.mul_le_mul (show n + 1 ≤ 1000000001 by omega) hb) (by decide)
  refine wpList_append_own_at w hg s x t hop base e i z 1 bytes he.ht hi hz hsz hby he.hz (by decide) v n vs hs hown ⟨g, 0, none⟩ 1 c [u] hx rfl ?_ ?_ hm hbytes hbase ?_
  · intro j u' hj
    cases j with
    | zero => simp at hj; subst hj; simpa [Addr.add] using hu
    | succ j => simp at hj
  · intro u' hm'; simp at hm'; subst hm'; exact h1
  · intro v' w' h1' h2 h3 h4
    refine hK v' w' h1' h2 ((Below.refl base w).grown h2 hbase (fun k hk => (hown.lt k hk).1)) h4 ?_
    intro e'
    have := (h3.1 e').2
    omega
end
theorem ints_of_own {w : World} {B : Nat} {v : Value} {xs : List Int} {e : TypeId} (h : w.ownsRow B e 1 v xs.length (xs.map (Value.int .i64))) (hbd : ∀ i, i < xs.length → in64 (xs.getD i 0)) :
    ∃ A cap, v = .slice A xs.length cap ∧ IsInts w A cap xs := by
  have hlt := h.lt
  rcases h.2 with ⟨rfl, h0⟩ | ⟨g, cap, cur, rfl, hg, hh, hn, hc, hs, ht⟩
  · have : xs = [] := List.eq_nil_of_length_eq_zero h0
    subst this
    exact ⟨none, 0, rfl, IsInts.nil _ _ _ (by omega)⟩
  · refine ⟨some ⟨g, 0, none⟩, cap, rfl, hn, hc, hbd, fun _ => ⟨g, 0, rfl, (hlt g rfl).2, fun i hi => ?_⟩⟩
    have := h.cells (g := g) rfl i (.int .i64 (xs.getD i 0)) (by rw [List.getElem?_map, List.getElem?_eq_getElem hi, getD_lt 0 hi]; rfl)
    by_cases e : i = 0
    · subst e; simpa [Addr.add] using this
    · simpa [Addr.add, e] using this
def lenOf : Value → Nat | .slice _ n _ => n | _ => 0
theorem own_len {w : World} {base : Nat} {e : TypeId} {n : Nat} {v : Value} {vs : List Value} {size : Nat} (h : w.ownsRow base e size v n vs) : lenOf v = n := by
  rcases h.2 with ⟨rfl, h0⟩ | ⟨g, cap, cur, rfl, _⟩
  · simp [lenOf, h0]
  · rfl
theorem grown_store (w : World) (p : Addr) (u : Value) : w.grownBy (w.setCell p u) (some p.block) :=
  ⟨rfl, rfl, rfl, by simp [World.setCell], fun i _ hi => Below.heap_setCell w p u i (fun e => hi (by rw [e]))⟩
theorem grown_then_store {a w : World} {g : Nat} (h : a.grownBy w (some g)) {p : Addr} (hp : a.heap.size ≤ p.block ∨ g = p.block) (u : Value) : a.grownBy (w.setCell p u) (some g) :=
  h.andThen (grown_store w p u) fun j hj => by injection hj with hj; subst hj; exact hp.imp id (fun e => by rw [e])
theorem grown_then_alloc {a w : World} {row : Option Nat} (h : a.grownBy w row) (o : Obj) : a.grownBy (w.alloc o) row :=
  h.andThen (World.grownBy_alloc w o none) fun j hj => by cases hj
theorem grown_then_below {a w w' : World} {row : Option Nat} {B : Nat} (h : a.grownBy w row) (hb : Below B w w') (hB : a.heap.size ≤ B) : a.grownBy w' row :=
  ⟨hb.os.trans h.os, hb.tape.trans h.tape, hb.output.trans h.output, Nat.le_trans h.size hb.size, fun k hk hne => (hb.block k (by omega)).trans (h.block k hk hne)⟩
theorem cell_new (w : World) (v : Value) (t g : Nat) (hg : g = w.heap.size) : (w.alloc (.cells #[v] t)).cell? ⟨g, 0, none⟩ = some v := by
  subst hg
  have := cell_one_new w v t 0 v rfl
  exact this
theorem below_drewN {B : Nat} {a w : World} (h : Below B a w) (n : Nat) : Below B a (w.drewN n) := ⟨h.os, h.tape, h.output, h.size, h.block⟩
theorem cell_lt {w : World} {b o : Nat} {v : Value} (h : w.cell? ⟨b, o, none⟩ = some v) : b < w.heap.size := by
  rcases Nat.lt_or_ge b w.heap.size with hlt | hge
  · exact hlt
  · simp [World.cell?, Array.getElem?_eq_none hge] at h
theorem cell_spot {w : World} {a : Addr} {v : Value} (h : w.cell? a = some v) : a.spot = none := by
  unfold World.cell? at h
  split at h
  · split at h
    · cases h
    · rename_i hs; simpa using hs
  · cases h
theorem ints_of_row {w : World} {a : Option Addr} {len cap : Nat} {zs : List Int}
    (h : (a = none ∧ len = 0 ∧ cap = 0 ∧ zs = []) ∨ ∃ x, a = some x ∧ len ≤ cap ∧ cap ≤ maxLen ∧ zs.length = cap ∧ (∀ i, i < zs.length → w.cell? (x.add i) = some (.int .i64 (zs.getD i 0))) ∧ ∀ n ∈ zs, (Lit.int .i64 n).wf = true) :
    ∃ xs : List Int, xs.length = len ∧ IsInts w a cap xs := by
  rcases h with ⟨rfl, rfl, rfl, rfl⟩ | ⟨x, rfl, hl, hm, hz, hc, hw⟩
  · exact ⟨[], rfl, IsInts.nil _ _ _ (by omega)⟩
  · have hlen : (zs.take len).length = len := by simp; omega
    unfold maxLen at hm
    refine ⟨zs.take len, hlen, by omega, by omega, fun i hi => ?_, fun hx => ?_⟩
    · have hi' : i < zs.length := by simp at hi; omega
      have := hw _ (List.getElem_mem hi')
      rw [getD_lt 0 hi, List.getElem_take]
      simp [Lit.wf, IntKind.min, IntKind.max, IntKind.signed, IntKind.bits] at this
      exact ⟨by omega, by omega⟩
    · have h0 : 0 < zs.length := by
        rcases Nat.eq_zero_or_pos zs.length with e | e
        · exact absurd (by have := List.eq_nil_of_length_eq_zero e; subst this; exact List.take_nil) hx
        · exact e
      have hs := cell_spot (hc 0 h0)
      have hc0 := hc 0 h0
      obtain ⟨b, o, sp⟩ := x
      simp [Addr.add] at hs
      subst hs
      refine ⟨b, o, rfl, cell_lt (by simpa [Addr.add] using hc0), fun i hi => ?_⟩
      have hi' : i < zs.length := by simp at hi; omega
      have := hc i hi'
      rw [getD_lt 0 hi, List.getElem_take, ← getD_lt 0 hi']
      by_cases e : i = 0
      · subst e; simpa [Addr.add] using this
      · simpa [Addr.add, e] using this
theorem IsInts.drewN {w : World} {A : Option Addr} {cap : Nat} {xs : List Int} (h : IsInts w A cap xs) (q : Nat) : IsInts (w.drewN q) A cap xs := ⟨h.len, h.cap_le, h.bd, h.row⟩
end Go.Proofs.Ytkmkcbkfakoomaa
