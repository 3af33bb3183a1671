/- Facts and contracts that the claim uses. No condition of its own. -/
import Derived.Test.YtkmkcbkfakoomaaDoorGRingTextsBF
import Derived.Deep.OwnRows
set_option linter.unusedVariables false
set_option linter.unusedSimpArgs false
namespace Go.Proofs.YtkmkcbkfakoomaaDoor
open Go.RowKit
def BlkTy (w : World) (A : Option Addr) (e : TypeId) : Prop := ∀ b o, A = some ⟨b, o, none⟩ → ∃ cs fr, w.heap[b]? = some (.cells cs e fr)
theorem BlkTy.kept {w w' : World} {A : Option Addr} {e : TypeId} {row : Option Nat} (h : BlkTy w A e) (hg : w.grownBy w' row) (hr : ∀ g, row = some g → ∃ cs t fr, w.heap[g]? = some (.cells cs t fr) ∧ t ≠ e) : BlkTy w' A e := by
  intro b o hA
  obtain ⟨cs, fr, hb⟩ := h b o hA
  have hlt : b < w.heap.size := (Array.getElem?_eq_some_iff.1 hb).1
  refine ⟨cs, fr, (hg.block b hlt ?_).trans hb⟩
  intro e'
  obtain ⟨cs', t, fr', hb', hne⟩ := hr b e'.symm
  rw [hb] at hb'
  cases hb'
  exact hne rfl
theorem IsInts.kept {w w' : World} {A : Option Addr} {cap : Nat} {xs : List Int} {row : Option Nat} (h : IsInts w A cap xs) (hg : w.grownBy w' row) (hne : ∀ b o, A = some ⟨b, o, none⟩ → row ≠ some b) : IsInts w' A cap xs :=
  ⟨h.len, h.cap_le, h.bd, fun hx => by
    obtain ⟨b, o, e, hl, hc⟩ := h.row hx
    exact ⟨b, o, e, Nat.lt_of_lt_of_le hl hg.size, fun i hi => (World.cell?_of_block (a := ⟨b, o + i, none⟩) (hg.block b hl (fun e' => hne b o e e'.symm))).trans (hc i hi)⟩⟩
theorem IsInts.keptTy {w w' : World} {A : Option Addr} {cap : Nat} {xs : List Int} {row : Option Nat} {e : TypeId} (h : IsInts w A cap xs) (ht : BlkTy w A e) (hg : w.grownBy w' row) (hr : ∀ g, row = some g → ∃ cs t fr, w.heap[g]? = some (.cells cs t fr) ∧ t ≠ e) : IsInts w' A cap xs :=
  h.kept hg fun b o hA e' => by
    obtain ⟨cs, fr, hb⟩ := ht b o hA
    obtain ⟨cs', t, fr', hb', hne⟩ := hr b e'
    rw [hb] at hb'
    cases hb'
    exact hne rfl
theorem own_ty {w : World} {base : Nat} {e : TypeId} {n : Nat} {v : Value} {vs : List Value} {size : Nat} (h : w.ownsRow base e size v n vs) : ∀ g, v.ownBlock = some g → ∃ cs fr, w.heap[g]? = some (.cells cs e fr) := by
  intro g hg
  rcases h.2 with ⟨rfl, _⟩ | ⟨g', cap, cur, rfl, _, hh, _⟩
  · simp [Value.ownBlock] at hg
  · simp [Value.ownBlock] at hg
    subst hg
    exact ⟨_, _, hh⟩
structure IsIntss (w : World) (A : Option Addr) (cap : Nat) (yss : List (List Int)) : Prop where
  len : yss.length ≤ cap
  cap_le : cap ≤ 9223372036854775807
  row : yss ≠ [] → ∃ b o, A = some ⟨b, o, none⟩ ∧ b < w.heap.size ∧ ∀ i, i < yss.length → ∃ Ai ci, w.cell? ⟨b, o + i, none⟩ = some (.slice Ai (yss.getD i []).length ci) ∧ IsInts w Ai ci (yss.getD i [])
theorem IsIntss.below {w w' : World} {A : Option Addr} {cap : Nat} {yss : List (List Int)} {B : Nat} (h : IsIntss w A cap yss) (hb : Below B w w') (hB : w.heap.size ≤ B) : IsIntss w' A cap yss :=
  ⟨h.len, h.cap_le, fun hx => by
    obtain ⟨b, o, e, hl, hc⟩ := h.row hx
    refine ⟨b, o, e, Nat.lt_of_lt_of_le hl hb.size, fun i hi => ?_⟩
    obtain ⟨Ai, ci, h1, h2⟩ := hc i hi
    exact ⟨Ai, ci, (hb.cell (p := ⟨b, o + i, none⟩) (by show b < B; omega)).trans h1, h2.below hb hB⟩⟩
def OwnIntss (w : World) (B : Nat) (eS eI : TypeId) (v : Value) (yss : List (List Int)) : Prop :=
  ∃ vs : List Value, w.ownsRow B eS 1 v yss.length vs ∧ ∀ i, i < yss.length → ∃ Ai ci, vs[i]? = some (.slice Ai (yss.getD i []).length ci) ∧ IsInts w Ai ci (yss.getD i []) ∧ BlkTy w Ai eI
theorem OwnIntss.nil (w : World) (B : Nat) (eS eI : TypeId) : OwnIntss w B eS eI (.slice none 0 0) [] := ⟨[], World.ownsRow_nil _ _ _ _, fun i hi => by simp at hi⟩
theorem OwnIntss.kept {w w' : World} {B : Nat} {eS eI : TypeId} {v : Value} {yss : List (List Int)} {row : Option Nat} (h : OwnIntss w B eS eI v yss) (hg : w.grownBy w' row)
    (hr : ∀ g, row = some g → ∃ cs t fr, w.heap[g]? = some (.cells cs t fr) ∧ t ≠ eS ∧ t ≠ eI) : OwnIntss w' B eS eI v yss := by
  obtain ⟨vs, h1, h2⟩ := h
  refine ⟨vs, h1.kept hg ?_, fun i hi => ?_⟩
  · cases hv : v.ownBlock with
    | none => exact .inl rfl
    | some g =>
      refine .inr fun e' => ?_
      obtain ⟨cs, fr, hb⟩ := own_ty h1 g hv
      obtain ⟨cs', t, fr', hb', hne, _⟩ := hr g e'.symm
      rw [hb] at hb'
      cases hb'
      exact hne rfl
  · obtain ⟨Ai, ci, q1, q2, q3⟩ := h2 i hi
    have hr' : ∀ g, row = some g → ∃ cs t fr, w.heap[g]? = some (.cells cs t fr) ∧ t ≠ eI := fun g hg' => by
      obtain ⟨cs, t, fr, hb, _, hne⟩ := hr g hg'
      exact ⟨cs, t, fr, hb, hne⟩
    exact ⟨Ai, ci, q1, q2.keptTy q3 hg hr', q3.kept hg hr'⟩
theorem OwnIntss.push {w w' : World} {B : Nat} {eS eI : TypeId} {v v' : Value} {yss : List (List Int)} {A : Option Addr} {c : Nat} {ys : List Int} {vs : List Value}
    (h1 : w.ownsRow B eS 1 v yss.length vs) (h2 : ∀ i, i < yss.length → ∃ Ai ci, vs[i]? = some (.slice Ai (yss.getD i []).length ci) ∧ IsInts w Ai ci (yss.getD i []) ∧ BlkTy w Ai eI)
    (hy : IsInts w A c ys) (ht : BlkTy w A eI) (hne : eS ≠ eI)
    (ho : w'.ownsRow B eS 1 v' (yss.length + 1) (vs ++ [.slice A ys.length c])) (hg : w.grownBy w' v.ownBlock) : OwnIntss w' B eS eI v' (yss ++ [ys]) := by
  have hl : vs.length = yss.length := by simpa using h1.1
  have hr' : ∀ g, v.ownBlock = some g → ∃ cs t fr, w.heap[g]? = some (.cells cs t fr) ∧ t ≠ eI := fun g hg' => by
    obtain ⟨cs, fr, hb⟩ := own_ty h1 g hg'
    exact ⟨cs, eS, fr, hb, hne⟩
  refine ⟨_, by simpa using ho, fun i hi => ?_⟩
  by_cases e : i < yss.length
  · obtain ⟨Ai, ci, q1, q2, q3⟩ := h2 i e
    have e1 : (yss ++ [ys]).getD i [] = yss.getD i [] := by simp [List.getD, List.getElem?_append_left e]
    rw [e1]
    exact ⟨Ai, ci, by rw [List.getElem?_append_left (by omega)]; exact q1, q2.keptTy q3 hg hr', q3.kept hg hr'⟩
  · obtain rfl : i = yss.length := by simp at hi; omega
    have e1 : (yss ++ [ys]).getD yss.length [] = ys := by simp [List.getD]
    rw [e1]
    exact ⟨A, c, by rw [← hl]; simp, hy.keptTy ht hg hr', ht.kept hg hr'⟩
theorem IsInts.alloc {w : World} {A : Option Addr} {cap : Nat} {xs : List Int} (h : IsInts w A cap xs) (o : Obj) : IsInts (w.alloc o) A cap xs := h.kept (World.grownBy_alloc _ _ none) (by simp)
theorem BlkTy.alloc {w : World} {A : Option Addr} {e : TypeId} (h : BlkTy w A e) (o : Obj) : BlkTy (w.alloc o) A e := h.kept (World.grownBy_alloc _ _ none) (by simp)
theorem OwnIntss.reads {w : World} {B : Nat} {eS eI : TypeId} {v : Value} {yss : List (List Int)} (h : OwnIntss w B eS eI v yss) : ∃ A cap, v = .slice A yss.length cap ∧ IsIntss w A cap yss := by
  obtain ⟨vs, h1, h2⟩ := h
  have hl : vs.length = yss.length := by simpa using h1.1
  have hlt := h1.lt
  rcases h1.2 with ⟨rfl, h0⟩ | ⟨g, cap, cur, rfl, hg, hh, hn, hc, hs, ht⟩
  · have : yss = [] := List.eq_nil_of_length_eq_zero h0
    subst this
    exact ⟨none, 0, rfl, by simp, by omega, fun h => absurd rfl h⟩
  · refine ⟨some ⟨g, 0, none⟩, cap, rfl, hn, hc, fun _ => ⟨g, 0, rfl, (hlt g rfl).2, fun i hi => ?_⟩⟩
    obtain ⟨Ai, ci, q1, q2, q3⟩ := h2 i hi
    refine ⟨Ai, ci, ?_, q2⟩
    have := h1.cells (g := g) rfl i _ q1
    by_cases e : i = 0
    · subst e; simpa [Addr.add] using this
    · simpa [Addr.add, e] using this
end Go.Proofs.YtkmkcbkfakoomaaDoor
