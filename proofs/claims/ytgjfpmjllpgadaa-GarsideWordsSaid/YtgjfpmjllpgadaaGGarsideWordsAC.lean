/- Words of permutations: the first descent is crossed, again and again. Plain facts: nothing of the program is here. -/
import Derived.Test.YtgjfpmjllpgadaaGGarsideWordsAB
import Derived.WalkKit
import Derived.WalkSpells
import Derived.WalkLawsBesides
import Derived.Lib.Hide
set_option linter.unusedVariables false
set_option linter.unusedSimpArgs false
namespace Go.Proofs.Ytgjfpmjllpgadaa

def desc (p : List Int) : Option Nat := (List.range (p.length - 1)).find? fun i => decide (p.getD (i + 1) 0 < p.getD i 0)
def swp (p : List Int) (i : Nat) : List Int := (p.set i (p.getD (i + 1) 0)).set (i + 1) (p.getD i 0)
theorem desc_some {p : List Int} {i : Nat} (h1 : i + 1 < p.length) (h2 : p.getD (i + 1) 0 < p.getD i 0) (h3 : ∀ j, j < i → ¬ p.getD (j + 1) 0 < p.getD j 0) : desc p = some i := by
  unfold desc
  rw [List.find?_range_eq_some]
  exact ⟨by simpa using h2, by simp; omega, fun j hj => by simpa using h3 j hj⟩
theorem desc_none {p : List Int} (h : ∀ j, j + 1 < p.length → ¬ p.getD (j + 1) 0 < p.getD j 0) : desc p = none := by
  unfold desc
  rw [List.find?_eq_none]
  intro j hj
  have := h j (by have := List.mem_range.1 hj; omega)
  simpa using this
theorem desc_lt {p : List Int} {i : Nat} (h : desc p = some i) : i + 1 < p.length ∧ p.getD (i + 1) 0 < p.getD i 0 := by
  unfold desc at h
  rw [List.find?_range_eq_some] at h
  have h1 := h.1
  have h2 := List.mem_range.1 h.2.1
  exact ⟨by omega, by simpa using h1⟩
def wgt : Nat → List Int → Int
  | _, [] => 0
  | k, x :: l => (k : Int) * x + wgt (k + 1) l
theorem wgt_app : ∀ (a b : List Int) (k : Nat), wgt k (a ++ b) = wgt k a + wgt (k + a.length) b
  | [], b, k => by simp [wgt]
  | x :: a, b, k => by
    simp only [List.cons_append, wgt, wgt_app a b (k + 1), List.length_cons]
    rw [show k + 1 + a.length = k + (a.length + 1) by omega]; omega
theorem swp_eq : ∀ (a : List Int) (x y : Int) (b : List Int), swp (a ++ x :: y :: b) a.length = a ++ y :: x :: b := by
  intro a x y b
  unfold swp
  have e1 : (a ++ x :: y :: b).getD (a.length + 1) 0 = y := by simp [List.getD]
  have e2 : (a ++ x :: y :: b).getD a.length 0 = x := by simp [List.getD]
  rw [e1, e2, List.set_append_right _ _ (Nat.le_refl _), List.set_append_right _ _ (by omega)]
  simp
theorem split_at {p : List Int} {i : Nat} (h : i + 1 < p.length) : p = p.take i ++ p.getD i 0 :: p.getD (i + 1) 0 :: p.drop (i + 2) := by
  have h1 : p.drop i = p.getD i 0 :: p.drop (i + 1) := by
    rw [List.drop_eq_getElem_cons (by omega)]; simp [List.getD, show i < p.length by omega]
  have h2 : p.drop (i + 1) = p.getD (i + 1) 0 :: p.drop (i + 2) := by
    rw [List.drop_eq_getElem_cons (by omega)]; simp [List.getD, h]
  conv => lhs; rw [← List.take_append_drop i p, h1, h2]
structure Ent (p : List Int) : Prop where
  len : p.length ≤ 6
  bd : ∀ x ∈ p, 0 ≤ x ∧ x ≤ 5
theorem mul_bd {k : Nat} {x : Int} (hk : k ≤ 5) (hx : 0 ≤ x ∧ x ≤ 5) : 0 ≤ (k : Int) * x ∧ (k : Int) * x ≤ 25 := by
  have h1 : 0 ≤ (k : Int) * x := Int.mul_nonneg (by omega) hx.1
  have h2 : (k : Int) * x ≤ 5 * 5 := Int.mul_le_mul (by omega) hx.2 hx.1 (by omega)
  omega
theorem wgt_bd : ∀ (l : List Int) (k : Nat), k + l.length ≤ 6 → (∀ x ∈ l, 0 ≤ x ∧ x ≤ 5) → 0 ≤ wgt k l ∧ wgt k l ≤ 25 * (l.length : Int)
  | [], k, _, _ => by simp [wgt]
  | x :: l, k, hk, h => by
    simp only [List.length_cons] at hk
    have ih := wgt_bd l (k + 1) (by omega) (fun y hy => h y (by simp [hy]))
    have := mul_bd (k := k) (by omega) (h x (by simp))
    simp only [wgt, List.length_cons]
    omega
def mu (p : List Int) : Nat := (151 - wgt 0 p).toNat
theorem Ent.mu {p : List Int} (h : Ent p) : 1 ≤ Go.Proofs.Ytgjfpmjllpgadaa.mu p ∧ Go.Proofs.Ytgjfpmjllpgadaa.mu p ≤ 151 := by
  have := wgt_bd p 0 (by have := h.len; omega) h.bd
  have := h.len
  unfold Go.Proofs.Ytgjfpmjllpgadaa.mu; omega
theorem Ent.swp {p : List Int} (h : Ent p) {i : Nat} (h1 : i + 1 < p.length) (h2 : p.getD (i + 1) 0 < p.getD i 0) : Ent (swp p i) ∧ Go.Proofs.Ytgjfpmjllpgadaa.mu (Go.Proofs.Ytgjfpmjllpgadaa.swp p i) < Go.Proofs.Ytgjfpmjllpgadaa.mu p ∧ (Go.Proofs.Ytgjfpmjllpgadaa.swp p i).length = p.length := by
  have hs := split_at h1
  have hl : (p.take i).length = i := by simp; omega
  obtain ⟨a, ha⟩ : ∃ a, a = p.take i := ⟨_, rfl⟩
  obtain ⟨b, hb⟩ : ∃ b, b = p.drop (i + 2) := ⟨_, rfl⟩
  obtain ⟨x, hx⟩ : ∃ x, x = p.getD i 0 := ⟨_, rfl⟩
  obtain ⟨y, hy⟩ : ∃ y, y = p.getD (i + 1) 0 := ⟨_, rfl⟩
  rw [← ha, ← hb, ← hx, ← hy] at hs
  rw [← hx, ← hy] at h2
  rw [← ha] at hl
  have hq : Go.Proofs.Ytgjfpmjllpgadaa.swp p i = a ++ y :: x :: b := by
    have := swp_eq a x y b
    rw [← hs, hl] at this; exact this
  have hE : Ent (a ++ y :: x :: b) := by
    refine ⟨?_, fun z hz => h.bd z ?_⟩
    · have := h.len; rw [hs] at this; simpa using this
    · rw [hs]; simp at hz ⊢; rcases hz with h1 | h1 | h1 | h1 <;> simp [h1]
  have hw : wgt 0 (a ++ y :: x :: b) = wgt 0 p + (x - y) := by
    rw [hs, wgt_app, wgt_app]
    simp only [wgt, Nat.zero_add]
    have e1 : ((a.length + 1 : Nat) : Int) * x = (a.length : Int) * x + x := by rw [Int.natCast_add, Int.add_mul]; simp
    have e2 : ((a.length + 1 : Nat) : Int) * y = (a.length : Int) * y + y := by rw [Int.natCast_add, Int.add_mul]; simp
    rw [e1, e2]; omega
  refine ⟨by rw [hq]; exact hE, ?_, by rw [hq, hs]; simp⟩
  have b1 := wgt_bd p 0 (by have := h.len; omega) h.bd
  have b2 := wgt_bd _ 0 (by have := hE.len; omega) hE.bd
  have := h.len
  unfold Go.Proofs.Ytgjfpmjllpgadaa.mu
  rw [hq, hw]; omega
def spl : Nat → List Int → List Int
  | 0, _ => []
  | k + 1, p => match desc p with
    | none => []
    | some i => ((i : Int) + 1) :: spl k (swp p i)
theorem spl_any : ∀ (k k' : Nat) (p : List Int), Ent p → mu p ≤ k → mu p ≤ k' → spl k p = spl k' p
  | 0, _, p, h, h1, _ => by have := h.mu; omega
  | _ + 1, 0, p, h, _, h2 => by have := h.mu; omega
  | k + 1, k' + 1, p, h, h1, h2 => by
    simp only [spl]
    split
    · rfl
    · rename_i i hi
      obtain ⟨q1, q2⟩ := desc_lt hi
      obtain ⟨g1, g2, _⟩ := h.swp q1 q2
      rw [spl_any k k' _ g1 (by omega) (by omega)]
def spell (p : List Int) : List Int := spl (mu p) p
theorem spell_none {p : List Int} (h : Ent p) (hd : desc p = none) : spell p = [] := by
  unfold spell
  obtain ⟨m, hm⟩ : ∃ m, mu p = m + 1 := ⟨mu p - 1, by have := h.mu; omega⟩
  rw [hm]; simp [spl, hd]
theorem spell_some {p : List Int} (h : Ent p) {i : Nat} (hd : desc p = some i) : spell p = ((i : Int) + 1) :: spell (swp p i) := by
  unfold spell
  obtain ⟨m, hm⟩ : ∃ m, mu p = m + 1 := ⟨mu p - 1, by have := h.mu; omega⟩
  obtain ⟨q1, q2⟩ := desc_lt hd
  obtain ⟨g1, g2, _⟩ := h.swp q1 q2
  rw [hm]; simp only [spl, hd]
  rw [spl_any m (mu (swp p i)) _ g1 (by omega) (Nat.le_refl _)]
theorem spl_len : ∀ (k : Nat) (p : List Int), (spl k p).length ≤ k
  | 0, _ => by simp [spl]
  | k + 1, p => by
    simp only [spl]
    split
    · simp
    · have := spl_len k (swp p ‹Nat›); simp; omega
theorem spl_mem : ∀ (k : Nat) (p : List Int), p.length ≤ 6 → ∀ x ∈ spl k p, 1 ≤ x ∧ x ≤ 5
  | 0, _, _, x, hx => by simp [spl] at hx
  | k + 1, p, h, x, hx => by
    simp only [spl] at hx
    split at hx
    · cases hx
    · rename_i i hi
      obtain ⟨q1, _⟩ := desc_lt hi
      rcases List.mem_cons.1 hx with rfl | hx
      · omega
      · exact spl_mem k (swp p i) (by simp [swp, h]) x hx
theorem spell_len {p : List Int} (h : Ent p) : (spell p).length ≤ 151 := Nat.le_trans (spl_len _ _) h.mu.2
theorem spell_mem {p : List Int} (h : Ent p) : ∀ x ∈ spell p, 1 ≤ x ∧ x ≤ 5 := spl_mem _ _ h.len
end Go.Proofs.Ytgjfpmjllpgadaa

/-
  What a walk is told of a slice of ints: nil, empty or not. Nothing of the program is here.
-/
set_option linter.unusedVariables false
set_option linter.unusedSimpArgs false
namespace Go.Proofs.Ytgjfpmjllpgadaa
open Go.RowKit

/-- The cells of a slice value '.slice A vs.length cap' read as vs (one cell an element). -/
def Row (w : World) (A : Option Addr) (vs : List Value) : Prop :=
  vs ≠ [] → ∃ b o, A = some ⟨b, o, none⟩ ∧ b < w.heap.size ∧ ∀ i, i < vs.length → w.cell? ⟨b, o + i, none⟩ = some (vs.getD i undef)

def in64 (x : Int) : Prop := -9223372036854775808 ≤ x ∧ x ≤ 9223372036854775807

/-- The value '.slice A xs.length cap' reads as the list xs of ints. -/
structure IsInts (w : World) (A : Option Addr) (cap : Nat) (xs : List Int) : Prop where
  len : xs.length ≤ cap
  cap_le : cap ≤ 9223372036854775807
  bd : ∀ i, i < xs.length → in64 (xs.getD i 0)
  row : xs ≠ [] → ∃ b o, A = some ⟨b, o, none⟩ ∧ b < w.heap.size ∧ ∀ i, i < xs.length → w.cell? ⟨b, o + i, none⟩ = some (.int .i64 (xs.getD i 0))

theorem IsInts.below {w w' : World} {A : Option Addr} {cap : Nat} {xs : List Int} {B : Nat} (h : IsInts w A cap xs) (hb : Below B w w') (hB : w.heap.size ≤ B) : IsInts w' A cap xs :=
  ⟨h.len, h.cap_le, h.bd, fun hx => by
    obtain ⟨b, o, e, hl, hc⟩ := h.row hx
    exact ⟨b, o, e, Nat.lt_of_lt_of_le hl (Nat.le_trans (Nat.le_refl _) hb.size), fun i hi => (hb.cell (p := ⟨b, o + i, none⟩) (by show b < B; omega)).trans (hc i hi)⟩⟩

theorem ret_int {k : IntKind} {a b : Int} (h : a = b) : Ending.returned (.int k a) = .returned (.int k b) := by rw [h]
theorem ret_bool {a b : Bool} (h : a = b) : Ending.returned (.bool a) = .returned (.bool b) := by rw [h]

/-- A guard for an arm: the goal stands at the operation that writes slot d. To be used under with_reducible. -/
theorem at_dst (d : Tmp) {P : Program} {ops : Array Oper} {rest : List Oper} {op : Op} {ty : TypeId} {pos : String} {after : Array Edge} {gd : Option (Nat × Bool)} {a : Act} {w : World} {Q : Exit → Act → World → Prop}
    (h : wpList P ops Q (⟨some d, op, ty, pos, after, gd⟩ :: rest) a w) : wpList P ops Q (⟨some d, op, ty, pos, after, gd⟩ :: rest) a w := h

end Go.Proofs.Ytgjfpmjllpgadaa
