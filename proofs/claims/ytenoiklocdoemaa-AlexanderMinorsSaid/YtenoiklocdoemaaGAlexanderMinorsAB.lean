/-
  Rows of ints that the call may write: 'Mine'. Nothing of the program is here.
-/
import Derived.Test.YtenoiklocdoemaaGAlexanderMinorsAA
import Derived.Sort.Row
import Derived.Shelf.Slices.Turned
import Derived.Shelf.Slices.Reverse
import Derived.Shelf.Slices.Equal
import Derived.Ground.Names2Prog
import Derived.Shelf.Slices.Clone
import Derived.Shelf.Slices.Cells
import Derived.Shelf.Slices.Empties2
import Derived.Test.YtenoiklocdoemaaProg
import Derived.Test.YtenoiklocdoemaaRows
set_option linter.unusedVariables false
set_option linter.unusedSimpArgs false
namespace Go.Proofs.Ytenoiklocdoemaa
open Go.RowKit

/-- '.slice A xs.length cap' reads as xs, lies in a block from B on, and may be written. -/
structure Mine (w : World) (B : Nat) (A : Option Addr) (cap : Nat) (xs : List Int) : Prop where
  ints : IsInts w A cap xs
  low : ∀ b o, A = some ⟨b, o, none⟩ → B ≤ b ∧ b < w.heap.size
  free : ∀ b o, A = some ⟨b, o, none⟩ → ∀ i, i < xs.length → w.frozen? ⟨b, o + i, none⟩ = false

def blkOf (A : Option Addr) : Option Nat := A.map (·.block)

theorem Mine.kept {w w' : World} {B : Nat} {A : Option Addr} {cap : Nat} {xs : List Int} {row : Option Nat} (h : Mine w B A cap xs) (hg : w.grownBy w' row) (hne : ∀ b o, A = some ⟨b, o, none⟩ → row ≠ some b) : Mine w' B A cap xs :=
  ⟨h.ints.kept hg hne, fun b o hA => ⟨(h.low b o hA).1, Nat.lt_of_lt_of_le (h.low b o hA).2 hg.size⟩, fun b o hA i hi => (World.frozen?_of_block (a := ⟨b, o + i, none⟩) (hg.block b (h.low b o hA).2 (fun e => hne b o hA e.symm))).trans (h.free b o hA i hi)⟩
theorem Mine.alloc {w : World} {B : Nat} {A : Option Addr} {cap : Nat} {xs : List Int} (h : Mine w B A cap xs) (o : Obj) : Mine (w.alloc o) B A cap xs := h.kept (World.grownBy_alloc _ _ none) (by simp)
theorem Mine.below {w w' : World} {B C : Nat} {A : Option Addr} {cap : Nat} {xs : List Int} (h : Mine w B A cap xs) (hb : Below C w w') (hC : w.heap.size ≤ C) : Mine w' B A cap xs :=
  h.kept (row := none) ⟨hb.os, hb.tape, hb.output, hb.size, fun k hk _ => hb.block k (by omega)⟩ (by simp)
theorem Mine.mono {w : World} {B B' : Nat} {A : Option Addr} {cap : Nat} {xs : List Int} (h : Mine w B A cap xs) (hB : B' ≤ B) : Mine w B' A cap xs := ⟨h.ints, fun b o hA => ⟨Nat.le_trans hB (h.low b o hA).1, (h.low b o hA).2⟩, h.free⟩

open Go.Sort in
theorem Mine.holds {w : World} {B b o cap : Nat} {xs : List Int} (h : Mine w B (some ⟨b, o, none⟩) cap xs) : Holds (Value.int .i64) w b o xs.toArray := by
  intro j hj
  have hj' : j < xs.length := by simpa using hj
  obtain ⟨b', o', e, _, hc⟩ := h.ints.row (by rintro rfl; simp at hj')
  cases e
  refine ⟨?_, h.free b o rfl j hj'⟩
  rw [hc j hj', getD_lt 0 hj']
  simp [hj']
open Go.Sort in
/-- Behind a store of a whole row of the same length or a longer one. -/
theorem Mine.put {w : World} {B b o cap q : Nat} {xs : List Int} (h : Mine w B (some ⟨b, o, none⟩) cap xs) (ys zs : List Int) (hl : (ys ++ zs).length = xs.length) (hbd : ∀ i, i < ys.length → in64 (ys.getD i 0)) :
    Mine (putRow (Value.int .i64) (Sort.ahead w q) b o (ys ++ zs).toArray) B (some ⟨b, o, none⟩) cap ys := by
  have hH := h.holds
  have h1 := h.ints.len
  have hlen : ys.length ≤ xs.length := by simp at hl; omega
  refine ⟨⟨by omega, h.ints.cap_le, hbd, fun hy => ⟨b, o, rfl, ?_, fun i hi => ?_⟩⟩, fun b' o' hA => ?_, fun b' o' hA i hi => ?_⟩
  · simpa using (h.low b o rfl).2
  · rw [cell?_putRow (Value.int .i64) (Sort.ahead w q) b o xs.toArray (ys ++ zs).toArray hH (by simpa using hl) i (by simp; omega)]
    rw [getD_lt 0 hi]
    simp [List.getElem_append_left hi, show i < ys.length + zs.length by omega]
  · cases hA
    have := h.low b o rfl
    exact ⟨this.1, by simpa using this.2⟩
  · cases hA
    simpa using h.free b o rfl i (by omega)

end Go.Proofs.Ytenoiklocdoemaa

/- The contracts of the library functions that this seat calls, laid by the shelf at its translation. No condition of its own. -/
namespace Go.Proofs
open Go.Shelf
def Try.lays108_ren : Go.Shelf.Ren := ⟨fun | 108 => 79 | n => n, fun | 28 => 22 | 3 => 3 | 0 => 0 | 4 => 4 | n => n, fun | n => n⟩
def Try.lays107_ren : Go.Shelf.Ren := ⟨fun | 107 => 68 | 108 => 79 | n => n, fun | 28 => 22 | 3 => 3 | 4 => 4 | 0 => 0 | n => n, fun | n => n⟩
def Try.lays112_ren : Go.Shelf.Ren := ⟨fun | 112 => 84 | n => n, fun | 28 => 22 | 3 => 3 | 4 => 4 | 0 => 0 | n => n, fun | n => n⟩
def Try.lays111_ren : Go.Shelf.Ren := ⟨fun | 111 => 32 | n => n, fun | 28 => 22 | 3 => 3 | 4 => 4 | 0 => 0 | n => n, fun | n => n⟩
def Try.laysNm215_ren : Go.Shelf.Ren := ⟨fun | 15 => 30 | n => n, fun | 22 => 22 | 3 => 3 | 4 => 4 | n => n, fun | n => n⟩
end Go.Proofs

/- Contracts of functions of this seat, and plain facts for them: used by the claims. No condition of its own. -/
set_option linter.unusedVariables false
set_option linter.unusedSimpArgs false
namespace Go.Proofs.Ytenoiklocdoemaa
open Go.RowKit

end Go.Proofs.Ytenoiklocdoemaa

/-
  The cycles of a permutation, as the program finds them. Plain facts: nothing of the program is here.
-/
set_option linter.unusedVariables false
set_option linter.unusedSimpArgs false
namespace Go.Proofs.Ytenoiklocdoemaa

def mark (D : Nat → Bool) (x : Nat) : Nat → Bool := fun j => if j = x then true else D j
/-- From x on, along xs, till an index that is marked. -/
def wk (xs : List Int) : Nat → Nat → (Nat → Bool) → List Int → List Int × (Nat → Bool)
  | 0, _, D, c => (c, D)
  | f + 1, x, D, c => if D x then (c, D) else wk xs f (xs.getD x 0).toNat (mark D x) (c ++ [(x : Int)])
def freeN (D : Nat → Bool) : Nat → Nat
  | 0 => 0
  | n + 1 => freeN D n + if D n then 0 else 1

theorem freeN_le (D : Nat → Bool) : ∀ n, freeN D n ≤ n
  | 0 => Nat.le_refl _
  | n + 1 => by have := freeN_le D n; simp only [freeN]; split <;> omega
theorem freeN_mark_ge {D : Nat → Bool} {x : Nat} : ∀ n, n ≤ x → freeN (mark D x) n = freeN D n
  | 0, _ => rfl
  | n + 1, h => by
    have := freeN_mark_ge (D := D) (x := x) n (by omega)
    simp only [freeN, this]
    have e : mark D x n = D n := by unfold mark; rw [if_neg (by omega)]
    rw [e]
theorem freeN_mark {D : Nat → Bool} {x : Nat} (hD : D x = false) : ∀ n, x < n → freeN (mark D x) n + 1 = freeN D n
  | 0, h => absurd h (by omega)
  | n + 1, h => by
    by_cases e : x = n
    · subst e
      have := freeN_mark_ge (D := D) (x := x) x (Nat.le_refl _)
      simp [freeN, this, hD, mark]
    · have := freeN_mark hD n (by omega)
      have e' : mark D x n = D n := by unfold mark; rw [if_neg (by omega)]
      simp only [freeN, e']
      omega
theorem freeN_pos {D : Nat → Bool} {x n : Nat} (hD : D x = false) (hx : x < n) : 0 < freeN D n := by
  have := freeN_mark hD n hx; omega

def InRange (xs : List Int) : Prop := ∀ i, i < xs.length → 0 ≤ xs.getD i 0 ∧ xs.getD i 0 < xs.length

theorem wk_enough {xs : List Int} (hr : InRange xs) : ∀ (f f' x : Nat) (D : Nat → Bool) (c : List Int), x < xs.length → freeN D xs.length ≤ f → freeN D xs.length ≤ f' → wk xs f x D c = wk xs f' x D c
  | 0, f', x, D, c, hx, h, h' => by
    have hD : D x = true := by
      cases hD : D x
      · have := freeN_pos hD hx; omega
      · rfl
    cases f' <;> simp [wk, hD]
  | f + 1, f', x, D, c, hx, h, h' => by
    cases hD : D x
    · have hp := freeN_pos hD hx
      have hm := freeN_mark hD xs.length hx
      obtain ⟨f'', rfl⟩ : ∃ f'', f' = f'' + 1 := ⟨f' - 1, by omega⟩
      simp only [wk, hD]
      have h2 := hr x hx
      exact wk_enough hr f f'' _ _ _ (by omega) (by omega) (by omega)
    · cases f' <;> simp [wk, hD]

/-- After k rounds: the cycles that were found, and what is marked. -/
def cycAt (xs : List Int) : Nat → List (List Int) × (Nat → Bool)
  | 0 => ([], fun _ => false)
  | k + 1 =>
    let r := wk xs xs.length k (cycAt xs k).2 []
    (if r.1 = [] then (cycAt xs k).1 else (cycAt xs k).1 ++ [r.1], r.2)
def cyclesOf (xs : List Int) : List (List Int) := (cycAt xs xs.length).1

/-- What a round of the inner loop has come to: c so far, D marked, x next; R at the end. -/
structure Wk (xs : List Int) (x : Nat) (D : Nat → Bool) (c : List Int) (R : List Int × (Nat → Bool)) : Prop where
  hx : x < xs.length
  all : ∀ i, i < c.length → 0 ≤ c.getD i 0 ∧ c.getD i 0 < xs.length
  len : c.length + freeN D xs.length ≤ xs.length
  fin : ∀ f, freeN D xs.length ≤ f → wk xs f x D c = R

theorem Wk.start {xs : List Int} (hr : InRange xs) {k : Nat} (hk : k < xs.length) (D : Nat → Bool) : Wk xs k D [] (wk xs xs.length k D []) :=
  ⟨hk, by simp, by simpa using freeN_le D _, fun f hf => wk_enough hr f _ k D [] hk hf (freeN_le D _)⟩
theorem Wk.done {xs : List Int} {x : Nat} {D : Nat → Bool} {c : List Int} {R} (h : Wk xs x D c R) (hD : D x = true) : R = (c, D) := by
  rw [← h.fin (freeN D xs.length + 1) (by omega)]
  simp [wk, hD]
theorem Wk.step {xs : List Int} (hr : InRange xs) {x : Nat} {D : Nat → Bool} {c : List Int} {R} (h : Wk xs x D c R) (hD : D x = false) :
    Wk xs (xs.getD x 0).toNat (mark D x) (c ++ [(x : Int)]) R ∧ freeN (mark D x) xs.length < freeN D xs.length := by
  have hx := h.hx
  have hm := freeN_mark hD xs.length hx
  have h2 := hr x hx
  refine ⟨⟨by omega, ?_, ?_, ?_⟩, by omega⟩
  · intro i hi
    by_cases e : i < c.length
    · have := h.all i e
      simpa [List.getD, List.getElem?_append_left e] using this
    · obtain rfl : i = c.length := by simp at hi; omega
      simp [List.getD]; omega
  · have := h.len
    simp; omega
  · intro f hf
    have := h.fin (f + 1) (by omega)
    simpa [wk, hD] using this

theorem cycAt_succ_some {xs : List Int} {k : Nat} {c : List Int} {D : Nat → Bool} (h : wk xs xs.length k (cycAt xs k).2 [] = (c, D)) (hc : c ≠ []) : cycAt xs (k + 1) = ((cycAt xs k).1 ++ [c], D) := by
  simp only [cycAt, h]; rw [if_neg hc]
theorem cycAt_succ_none {xs : List Int} {k : Nat} {c : List Int} {D : Nat → Bool} (h : wk xs xs.length k (cycAt xs k).2 [] = (c, D)) (hc : c = []) : cycAt xs (k + 1) = ((cycAt xs k).1, D) := by
  simp only [cycAt, h]; rw [if_pos hc]

theorem wk_len {xs : List Int} (hr : InRange xs) : ∀ (f x : Nat) (D : Nat → Bool) (c : List Int), x < xs.length → c.length + freeN D xs.length ≤ xs.length → (wk xs f x D c).1.length ≤ xs.length
  | 0, x, D, c, hx, h => by simp only [wk]; omega
  | f + 1, x, D, c, hx, h => by
    cases hD : D x
    · have hm := freeN_mark hD xs.length hx
      have h2 := hr x hx
      simp only [wk, hD]
      exact wk_len hr f _ _ _ (by omega) (by simp; omega)
    · simp [wk, hD]; omega
theorem cycAt_lens {xs : List Int} (hr : InRange xs) : ∀ k, k ≤ xs.length → ∀ c ∈ (cycAt xs k).1, 1 ≤ c.length ∧ c.length ≤ xs.length
  | 0, _ => by simp [cycAt]
  | k + 1, hk => by
    have ih := cycAt_lens hr k (by omega)
    have hl := wk_len hr xs.length k (cycAt xs k).2 [] (by omega) (by simpa using freeN_le _ _)
    intro c hc
    simp only [cycAt] at hc
    split at hc
    · exact ih c hc
    · rename_i hne
      rcases List.mem_append.1 hc with h | h
      · exact ih c h
      · simp at h
        subst h
        exact ⟨List.length_pos_iff.2 hne, hl⟩
theorem cyclesOf_lens {xs : List Int} (hr : InRange xs) : ∀ c ∈ cyclesOf xs, 1 ≤ c.length ∧ c.length ≤ xs.length := cycAt_lens hr _ (Nat.le_refl _)

/-- The order, as the program reckons it: after the first k cycles. -/
def ordAt (cs : List (List Int)) : Nat → Nat
  | 0 => 1
  | k + 1 => ordAt cs k / Nat.gcd (ordAt cs k) (cs.getD k []).length * (cs.getD k []).length
def orderOf (xs : List Int) : Nat := ordAt (cyclesOf xs) (cyclesOf xs).length

end Go.Proofs.Ytenoiklocdoemaa

/-
  Powers of a permutation: the order that the program reckons takes every point back. Plain facts: nothing of the program is here.
-/
set_option linter.unusedVariables false
set_option linter.unusedSimpArgs false
namespace Go.Proofs.Ytenoiklocdoemaa

def itr (f : Nat → Nat) : Nat → Nat → Nat
  | 0, i => i
  | k + 1, i => f (itr f k i)
theorem itr_add (f : Nat → Nat) (a : Nat) : ∀ b i, itr f (a + b) i = itr f b (itr f a i)
  | 0, i => rfl
  | b + 1, i => by rw [← Nat.add_assoc]; simp only [itr]; rw [itr_add f a b i]
theorem itr_mul {f : Nat → Nat} {L i : Nat} (h : itr f L i = i) : ∀ q, itr f (L * q) i = i
  | 0 => rfl
  | q + 1 => by rw [Nat.mul_succ, itr_add, itr_mul h q, h]
theorem itr_lt {f : Nat → Nat} {n : Nat} (hf : ∀ i, i < n → f i < n) : ∀ k i, i < n → itr f k i < n
  | 0, i, h => h
  | k + 1, i, h => hf _ (itr_lt hf k i h)
/-- the map of a list -/
def fn (xs : List Int) (i : Nat) : Nat := (xs.getD i 0).toNat
structure Pm (xs : List Int) : Prop where
  rng : InRange xs
  nd : xs.Nodup
theorem Pm.lt {xs : List Int} (h : Pm xs) : ∀ i, i < xs.length → fn xs i < xs.length := fun i hi => by
  have := h.rng i hi; unfold fn; omega
theorem Pm.val {xs : List Int} (h : Pm xs) {i : Nat} (hi : i < xs.length) : xs.getD i 0 = (fn xs i : Int) := by
  have := h.rng i hi; unfold fn; omega
theorem Pm.inj {xs : List Int} (h : Pm xs) : ∀ i j, i < xs.length → j < xs.length → fn xs i = fn xs j → i = j := fun i j hi hj e => by
  have e2 : xs.getD i 0 = xs.getD j 0 := by rw [h.val hi, h.val hj, e]
  rw [getD_lt 0 hi, getD_lt 0 hj] at e2
  exact (List.getElem_inj h.nd).1 e2

/-- the walk along a cycle -/
structure Ob (xs : List Int) (k : Nat) (D0 : Nat → Bool) (x : Nat) (D : Nat → Bool) (c : List Int) : Prop where
  x_eq : x = itr (fn xs) c.length k
  c_eq : ∀ j, j < c.length → c.getD j 0 = (itr (fn xs) j k : Int)
  dis : ∀ i j, i < j → j < c.length → itr (fn xs) i k ≠ itr (fn xs) j k
  mkd : ∀ y, D y = true ↔ D0 y = true ∨ ∃ j, j < c.length ∧ y = itr (fn xs) j k

theorem wk_ob {xs : List Int} (hp : Pm xs) {k : Nat} {D0 : Nat → Bool} : ∀ (f x : Nat) (D : Nat → Bool) (c : List Int), x < xs.length → freeN D xs.length ≤ f → Ob xs k D0 x D c →
    ∃ x' D' c', wk xs f x D c = (c', D') ∧ Ob xs k D0 x' D' c' ∧ D' x' = true
  | 0, x, D, c, hx, hf, H => by
    have hD : D x = true := by
      cases hD : D x
      · have := freeN_pos hD hx; omega
      · rfl
    exact ⟨x, D, c, rfl, H, hD⟩
  | f + 1, x, D, c, hx, hf, H => by
    cases hD : D x
    · have hm := freeN_mark hD xs.length hx
      simp only [wk, hD]
      refine wk_ob hp f _ _ _ (hp.lt x hx) (by omega) ⟨?_, fun j hj => ?_, fun i j hij hj => ?_, fun y => ?_⟩
      · show fn xs x = _
        rw [H.x_eq]; simp [itr]
      · by_cases e : j < c.length
        · have := H.c_eq j e
          simpa [List.getD, List.getElem?_append_left e] using this
        · obtain rfl : j = c.length := by simp at hj; omega
          rw [← H.x_eq]; simp [List.getD]
      · by_cases e : j < c.length
        · exact H.dis i j hij e
        · obtain rfl : j = c.length := by simp at hj; omega
          rw [← H.x_eq]
          intro e2
          have := (H.mkd x).2 (.inr ⟨i, hij, e2.symm⟩)
          rw [hD] at this; cases this
      · unfold mark
        split
        · rename_i e
          subst e
          refine ⟨fun _ => .inr ⟨c.length, by simp, H.x_eq⟩, fun _ => rfl⟩
        · rename_i e
          rw [H.mkd y]
          refine or_congr Iff.rfl ⟨fun ⟨j, h1, h2⟩ => ⟨j, by simp; omega, h2⟩, fun ⟨j, h1, h2⟩ => ⟨j, ?_, h2⟩⟩
          apply Classical.byContradiction
          intro hc
          obtain rfl : j = c.length := by simp at h1; omega
          exact e (by rw [h2, H.x_eq])
    · exact ⟨x, D, c, by simp [wk, hD], H, hD⟩

/-- marked points: with a point its forerunner, and each is on a cycle that was found -/
structure Mk (xs : List Int) (cs : List (List Int)) (D : Nat → Bool) : Prop where
  pre : ∀ y, y < xs.length → D (fn xs y) = true → D y = true
  on : ∀ y, y < xs.length → D y = true → ∃ c ∈ cs, itr (fn xs) c.length y = y

theorem cyc_closed {xs : List Int} (hp : Pm xs) {k : Nat} (hk : k < xs.length) {D0 D : Nat → Bool} {c : List Int} {x : Nat} (H : Ob xs k D0 x D c) (hD : D x = true) (h0 : D0 k = false) (hpre : ∀ y, y < xs.length → D0 (fn xs y) = true → D0 y = true) :
    0 < c.length ∧ itr (fn xs) c.length k = k := by
  have back : ∀ m, D0 (itr (fn xs) m k) = true → D0 k = true := by
    intro m
    induction m with
    | zero => exact fun h => h
    | succ m ih => exact fun h => ih (hpre _ (itr_lt hp.lt m k hk) h)
  have hx := H.x_eq
  rcases (H.mkd x).1 hD with h | ⟨j, hj, e⟩
  · rw [hx] at h
    have := back _ h
    rw [h0] at this; cases this
  · rw [hx] at e
    have hpos : 0 < c.length := by omega
    refine ⟨hpos, ?_⟩
    cases j with
    | zero => exact e
    | succ j =>
      obtain ⟨m, hm⟩ : ∃ m, c.length = m + 1 := ⟨c.length - 1, by omega⟩
      rw [hm] at e
      have e2 : itr (fn xs) m k = itr (fn xs) j k := hp.inj _ _ (itr_lt hp.lt m k hk) (itr_lt hp.lt j k hk) e
      exact absurd e2.symm (H.dis j m (by omega) (by omega))

theorem cyc_mk {xs : List Int} (hp : Pm xs) : ∀ k, k ≤ xs.length → Mk xs (cycAt xs k).1 (cycAt xs k).2 ∧ ∀ i, i < k → (cycAt xs k).2 i = true
  | 0, _ => ⟨⟨fun _ _ h => by simp [cycAt] at h, fun _ _ h => by simp [cycAt] at h⟩, fun i hi => by omega⟩
  | k + 1, hk => by
    obtain ⟨ih, ihd⟩ := cyc_mk hp k (by omega)
    obtain ⟨x, D, c, hw, H, hD⟩ := wk_ob hp (k := k) (D0 := (cycAt xs k).2) xs.length k (cycAt xs k).2 [] (by omega) (freeN_le _ _) ⟨rfl, fun j hj => by simp at hj, fun i j _ hj => by simp at hj, fun y => by simp⟩
    have keep : ∀ y, (cycAt xs k).2 y = true → D y = true := fun y hy => (H.mkd y).2 (.inl hy)
    by_cases h0 : (cycAt xs k).2 k = true
    · have hc : c = [] := by
        have : wk xs xs.length k (cycAt xs k).2 [] = ([], (cycAt xs k).2) := by
          cases hl : xs.length <;> simp [wk, h0]
        rw [this] at hw; cases hw; rfl
      have hcy := cycAt_succ_none hw hc
      have hDD : ∀ y, D y = true ↔ (cycAt xs k).2 y = true := fun y => by
        rw [H.mkd y]; subst hc; simp
      rw [hcy]
      refine ⟨⟨fun y hy h => (hDD y).2 (ih.pre y hy ((hDD _).1 h)), fun y hy h => ih.on y hy ((hDD y).1 h)⟩, fun i hi => ?_⟩
      by_cases e : i = k
      · subst e; exact keep _ h0
      · exact keep _ (ihd i (by omega))
    · have h0 : (cycAt xs k).2 k = false := by cases h : (cycAt xs k).2 k <;> simp_all
      obtain ⟨hpos, hcl⟩ := cyc_closed hp (by omega) H hD h0 ih.pre
      have hcy := cycAt_succ_some hw (by intro e; rw [e] at hpos; simp at hpos)
      rw [hcy]
      refine ⟨⟨fun y hy h => ?_, fun y hy h => ?_⟩, fun i hi => ?_⟩
      · rcases (H.mkd _).1 h with h1 | ⟨j, hj, e⟩
        · exact keep _ (ih.pre y hy h1)
        · cases j with
          | zero =>
            obtain ⟨m, hm⟩ : ∃ m, c.length = m + 1 := ⟨c.length - 1, by omega⟩
            rw [hm] at hcl
            have : y = itr (fn xs) m k := hp.inj _ _ hy (itr_lt hp.lt m k (by omega)) (by rw [e]; exact hcl.symm)
            exact (H.mkd y).2 (.inr ⟨m, by omega, this⟩)
          | succ j =>
            have : y = itr (fn xs) j k := hp.inj _ _ hy (itr_lt hp.lt j k (by omega)) e
            exact (H.mkd y).2 (.inr ⟨j, by omega, this⟩)
      · rcases (H.mkd y).1 h with h1 | ⟨j, hj, rfl⟩
        · obtain ⟨c', h2, h3⟩ := ih.on y hy h1
          exact ⟨c', by simp [h2], h3⟩
        · exact ⟨c, by simp, by rw [← itr_add, Nat.add_comm, itr_add, hcl]⟩
      · by_cases e : i = k
        · subst e; exact (H.mkd _).2 (.inr ⟨0, hpos, rfl⟩)
        · exact keep _ (ihd i (by omega))

/-- a list out of a map -/
def tabN (n : Nat) (F : Nat → Nat) : List Int := (List.range n).map fun i => (F i : Int)
@[simp] theorem tab_len (n : Nat) (F : Nat → Nat) : (tabN n F).length = n := by simp [tabN]
theorem tabN_get {n : Nat} {F : Nat → Nat} {i : Nat} (h : i < n) : (tabN n F).getD i 0 = (F i : Int) := by simp [tabN, List.getD, h]
theorem Pm.tabN {xs : List Int} (h : Pm xs) : xs = tabN xs.length (fn xs) := by
  apply List.ext_getElem
  · simp
  · intro i h1 h2
    have := h.val h1
    rw [getD_lt 0 h1] at this
    rw [this]; simp [Go.Proofs.Ytenoiklocdoemaa.tabN]
/-- the inverse map -/
def gn (xs : List Int) : Nat → Nat := itr (fn xs) (orderOf xs - 1)
end Go.Proofs.Ytenoiklocdoemaa
