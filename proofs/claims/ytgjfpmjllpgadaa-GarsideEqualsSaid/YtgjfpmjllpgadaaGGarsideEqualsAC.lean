/- Words of permutations: the first descent is crossed, again and again. Plain facts: nothing of the program is here. -/
import Derived.Test.YtgjfpmjllpgadaaGGarsideEqualsAB
import Derived.WalkKit
import Derived.WalkSpells
import Derived.WalkLawsBesides
import Derived.Lib.Hide
set_option linter.unusedVariables false
set_option linter.unusedSimpArgs false
namespace Go.Proofs.Ytgjfpmjllpgadaa

def desc (p : List Int) : Option Nat := (List.range (p.length - 1)).find? fun i => decide (p.getD (i + 1) 0 < p.getD i 0)
def swp (p : List Int) (i : Nat) : List Int := (p.set i (p.getD (i + 1) 0)).set (i + 1) (p.getD i 0)
theorem desc_some {p : List Int} {i : Nat} (h1 : i + 1 < p.length) (h2 : p.getD (i + 1) 0 < p.getD i 0) (h3 : ∀ j, j < i → ¬ p.getD (j + 1) 0 < p.getD j 0) : desc p = some i := by
  unfold desc
  rw [List.find?_range_eq_some]
  exact ⟨by simpa using h2, by simp; omega, fun j hj => by simpa using h3 j hj⟩
theorem desc_none {p : List Int} (h : ∀ j, j + 1 < p.length → ¬ p.getD (j + 1) 0 < p.getD j 0) : desc p = none := by
  unfold desc
  rw [List.find?_eq_none]
  intro j hj
  have := h j (by have := List.mem_range.1 hj; omega)
  simpa using this
theorem desc_lt {p : List Int} {i : Nat} (h : desc p = some i) : i + 1 < p.length ∧ p.getD (i + 1) 0 < p.getD i 0 := by
  unfold desc at h
  rw [List.find?_range_eq_some] at h
  have h1 := h.1
  have h2 := List.mem_range.1 h.2.1
  exact ⟨by omega, by simpa using h1⟩
def wgt : Nat → List Int → Int
  | _, [] => 0
  | k, x :: l => (k : Int) * x + wgt (k + 1) l
theorem wgt_app : ∀ (a b : List Int) (k : Nat), wgt k (a ++ b) = wgt k a + wgt (k + a.length) b
  | [], b, k => by simp [wgt]
  | x :: a, b, k => by
    simp only [List.cons_append, wgt, wgt_app a b (k + 1), List.length_cons]
    rw [show k + 1 + a.length = k + (a.length + 1) by omega]; omega
theorem swp_eq : ∀ (a : List Int) (x y : Int) (b : List Int), swp (a ++ x :: y :: b) a.length = a ++ y :: x :: b := by
  intro a x y b
  unfold swp
  have e1 : (a ++ x :: y :: b).getD (a.length + 1) 0 = y := by simp [List.getD]
  have e2 : (a ++ x :: y :: b).getD a.length 0 = x := by simp [List.getD]
  rw [e1, e2, List.set_append_right _ _ (Nat.le_refl _), List.set_append_right _ _ (by omega)]
  simp
theorem split_at {p : List Int} {i : Nat} (h : i + 1 < p.length) : p = p.take i ++ p.getD i 0 :: p.getD (i + 1) 0 :: p.drop (i + 2) := by
  have h1 : p.drop i = p.getD i 0 :: p.drop (i + 1) := by
    rw [List.drop_eq_getElem_cons (by omega)]; simp [List.getD, show i < p.length by omega]
  have h2 : p.drop (i + 1) = p.getD (i + 1) 0 :: p.drop (i + 2) := by
    rw [List.drop_eq_getElem_cons (by omega)]; simp [List.getD, h]
  conv => lhs; rw [← List.take_append_drop i p, h1, h2]
structure Ent (p : List Int) : Prop where
  len : p.length ≤ 6
  bd : ∀ x ∈ p, 0 ≤ x ∧ x ≤ 5
theorem mul_bd {k : Nat} {x : Int} (hk : k ≤ 5) (hx : 0 ≤ x ∧ x ≤ 5) : 0 ≤ (k : Int) * x ∧ (k : Int) * x ≤ 25 := by
  have h1 : 0 ≤ (k : Int) * x := Int.mul_nonneg (by omega) hx.1
  have h2 : (k : Int) * x ≤ 5 * 5 := Int.mul_le_mul (by omega) hx.2 hx.1 (by omega)
  omega
theorem wgt_bd : ∀ (l : List Int) (k : Nat), k + l.length ≤ 6 → (∀ x ∈ l, 0 ≤ x ∧ x ≤ 5) → 0 ≤ wgt k l ∧ wgt k l ≤ 25 * (l.length : Int)
  | [], k, _, _ => by simp [wgt]
  | x :: l, k, hk, h => by
    simp only [List.length_cons] at hk
    have ih := wgt_bd l (k + 1) (by omega) (fun y hy => h y (by simp [hy]))
    have := mul_bd (k := k) (by omega) (h x (by simp))
    simp only [wgt, List.length_cons]
    omega
def mu (p : List Int) : Nat := (151 - wgt 0 p).toNat
theorem Ent.mu {p : List Int} (h : Ent p) : 1 ≤ Go.Proofs.Ytgjfpmjllpgadaa.mu p ∧ Go.Proofs.Ytgjfpmjllpgadaa.mu p ≤ 151 := by
  have := wgt_bd p 0 (by have := h.len; omega) h.bd
  have := h.len
  unfold Go.Proofs.Ytgjfpmjllpgadaa.mu; omega
theorem Ent.swp {p : List Int} (h : Ent p) {i : Nat} (h1 : i + 1 < p.length) (h2 : p.getD (i + 1) 0 < p.getD i 0) : Ent (swp p i) ∧ Go.Proofs.Ytgjfpmjllpgadaa.mu (Go.Proofs.Ytgjfpmjllpgadaa.swp p i) < Go.Proofs.Ytgjfpmjllpgadaa.mu p ∧ (Go.Proofs.Ytgjfpmjllpgadaa.swp p i).length = p.length := by
  have hs := split_at h1
  have hl : (p.take i).length = i := by simp; omega
  obtain ⟨a, ha⟩ : ∃ a, a = p.take i := ⟨_, rfl⟩
  obtain ⟨b, hb⟩ : ∃ b, b = p.drop (i + 2) := ⟨_, rfl⟩
  obtain ⟨x, hx⟩ : ∃ x, x = p.getD i 0 := ⟨_, rfl⟩
  obtain ⟨y, hy⟩ : ∃ y, y = p.getD (i + 1) 0 := ⟨_, rfl⟩
  rw [← ha, ← hb, ← hx, ← hy] at hs
  rw [← hx, ← hy] at h2
  rw [← ha] at hl
  have hq : Go.Proofs.Ytgjfpmjllpgadaa.swp p i = a ++ y :: x :: b := by
    have := swp_eq a x y b
    rw [← hs, hl] at this; exact this
  have hE : Ent (a ++ y :: x :: b) := by
    refine ⟨?_, fun z hz => h.bd z ?_⟩
    · have := h.len; rw [hs] at this; simpa using this
    · rw [hs]; simp at hz ⊢; rcases hz with h1 | h1 | h1 | h1 <;> simp [h1]
  have hw : wgt 0 (a ++ y :: x :: b) = wgt 0 p + (x - y) := by
    rw [hs, wgt_app, wgt_app]
    simp only [wgt, Nat.zero_add]
    have e1 : ((a.length + 1 : Nat) : Int) * x = (a.length : Int) * x + x := by rw [Int.natCast_add, Int.add_mul]; simp
    have e2 : ((a.length + 1 : Nat) : Int) * y = (a.length : Int) * y + y := by rw [Int.natCast_add, Int.add_mul]; simp
    rw [e1, e2]; omega
  refine ⟨by rw [hq]; exact hE, ?_, by rw [hq, hs]; simp⟩
  have b1 := wgt_bd p 0 (by have := h.len; omega) h.bd
  have b2 := wgt_bd _ 0 (by have := hE.len; omega) hE.bd
  have := h.len
  unfold Go.Proofs.Ytgjfpmjllpgadaa.mu
  rw [hq, hw]; omega
def spl : Nat → List Int → List Int
  | 0, _ => []
  | k + 1, p => match desc p with
    | none => []
    | some i => ((i : Int) + 1) :: spl k (swp p i)
theorem spl_any : ∀ (k k' : Nat) (p : List Int), Ent p → mu p ≤ k → mu p ≤ k' → spl k p = spl k' p
  | 0, _, p, h, h1, _ => by have := h.mu; omega
  | _ + 1, 0, p, h, _, h2 => by have := h.mu; omega
  | k + 1, k' + 1, p, h, h1, h2 => by
    simp only [spl]
    split
    · rfl
    · rename_i i hi
      obtain ⟨q1, q2⟩ := desc_lt hi
      obtain ⟨g1, g2, _⟩ := h.swp q1 q2
      rw [spl_any k k' _ g1 (by omega) (by omega)]
def spell (p : List Int) : List Int := spl (mu p) p
theorem spell_none {p : List Int} (h : Ent p) (hd : desc p = none) : spell p = [] := by
  unfold spell
  obtain ⟨m, hm⟩ : ∃ m, mu p = m + 1 := ⟨mu p - 1, by have := h.mu; omega⟩
  rw [hm]; simp [spl, hd]
theorem spell_some {p : List Int} (h : Ent p) {i : Nat} (hd : desc p = some i) : spell p = ((i : Int) + 1) :: spell (swp p i) := by
  unfold spell
  obtain ⟨m, hm⟩ : ∃ m, mu p = m + 1 := ⟨mu p - 1, by have := h.mu; omega⟩
  obtain ⟨q1, q2⟩ := desc_lt hd
  obtain ⟨g1, g2, _⟩ := h.swp q1 q2
  rw [hm]; simp only [spl, hd]
  rw [spl_any m (mu (swp p i)) _ g1 (by omega) (Nat.le_refl _)]
end Go.Proofs.Ytgjfpmjllpgadaa

/-
  The sign of a permutation: inversions and cycles. Plain facts: nothing of the program is here.
-/
set_option linter.unusedVariables false
set_option linter.unusedSimpArgs false
namespace Go.Proofs.Ytgjfpmjllpgadaa

/-- how many k below m -/
def cnt (p : Nat → Bool) : Nat → Nat
  | 0 => 0
  | m + 1 => cnt p m + if p m then 1 else 0
theorem cnt_congr {p q : Nat → Bool} : ∀ {m : Nat}, (∀ k, k < m → p k = q k) → cnt p m = cnt q m
  | 0, _ => rfl
  | m + 1, h => by simp only [cnt]; rw [cnt_congr (fun k hk => h k (by omega)), h m (by omega)]
theorem cnt_zero {p : Nat → Bool} {m : Nat} (h : ∀ k, k < m → p k = false) : cnt p m = 0 := by
  induction m with
  | zero => rfl
  | succ m ih => simp only [cnt]; rw [ih (fun k hk => h k (by omega)), h m (by omega)]; rfl
/-- one place differs -/
theorem cnt_diff {p q : Nat → Bool} {u : Nat} : ∀ {m : Nat}, u < m → (∀ k, k < m → k ≠ u → p k = q k) → cnt p m + (if q u then 1 else 0) = cnt q m + (if p u then 1 else 0)
  | m + 1, hu, h => by
    simp only [cnt]
    by_cases e : u = m
    · subst e
      rw [cnt_congr (fun k hk => h k (by omega) (by omega))]
      omega
    · have := cnt_diff (p := p) (q := q) (u := u) (m := m) (by omega) (fun k hk hn => h k (by omega) hn)
      rw [h m (by omega) (fun e2 => e e2.symm)]
      omega
/-- inversions -/
def ivc (f : Nat → Nat) : Nat → Nat
  | 0 => 0
  | i + 1 => ivc f i + cnt (fun k => decide (f i < f k)) i
theorem ivc_congr {f g : Nat → Nat} : ∀ {m : Nat}, (∀ k, k < m → f k = g k) → ivc f m = ivc g m
  | 0, _ => rfl
  | m + 1, h => by
    simp only [ivc]
    rw [ivc_congr (fun k hk => h k (by omega)), h m (by omega), cnt_congr (fun k hk => by rw [h k (by omega)])]
structure IsP (f : Nat → Nat) (n : Nat) : Prop where
  lt : ∀ i, i < n → f i < n
  inj : ∀ i j, i < n → j < n → f i = f j → i = j
theorem itr_congr {f g : Nat → Nat} {n : Nat} (hf : ∀ i, i < n → f i < n) (h : ∀ i, i < n → f i = g i) : ∀ (j i : Nat), i < n → itr f j i = itr g j i
  | 0, _, _ => rfl
  | j + 1, i, hi => by
    simp only [itr]
    rw [← itr_congr hf h j i hi, h _ (itr_lt hf j i hi)]
theorem IsP.pm {f : Nat → Nat} {n : Nat} (h : IsP f n) : Pm (tabN n f) := by
  refine ⟨fun i hi => ?_, ?_⟩
  · have hl : (tabN n f).length = n := tab_len n f
    rw [hl] at hi ⊢
    rw [tabN_get hi]
    have := h.lt i hi
    omega
  · unfold tabN
    rw [List.Nodup, List.pairwise_map]
    refine List.Pairwise.imp_of_mem ?_ (List.nodup_range (n := n))
    intro a b ha hb hne he
    exact hne (h.inj a b (by simpa using ha) (by simpa using hb) (by exact_mod_cast he))
theorem Pm.isP {xs : List Int} (h : Pm xs) : IsP (fn xs) xs.length := ⟨h.lt, h.inj⟩
theorem fn_tab {n : Nat} {f : Nat → Nat} {i : Nat} (hi : i < n) : fn (tabN n f) i = f i := by
  unfold fn; rw [tabN_get hi]; simp
theorem Pm.per {xs : List Int} (hp : Pm xs) {i : Nat} (hi : i < xs.length) : ∃ L, 1 ≤ L ∧ L ≤ xs.length ∧ itr (fn xs) L i = i := by
  obtain ⟨hm, hd⟩ := cyc_mk hp xs.length (Nat.le_refl _)
  obtain ⟨c, h1, h2⟩ := hm.on i hi (hd i hi)
  have := cyclesOf_lens hp.rng c h1
  exact ⟨c.length, this.1, this.2, h2⟩
theorem IsP.per {f : Nat → Nat} {n : Nat} (h : IsP f n) {i : Nat} (hi : i < n) : ∃ L, 1 ≤ L ∧ L ≤ n ∧ itr f L i = i := by
  have hl : (tabN n f).length = n := tab_len n f
  obtain ⟨L, h1, h2, h3⟩ := h.pm.per (i := i) (by rw [hl]; exact hi)
  rw [hl] at h2
  refine ⟨L, h1, h2, ?_⟩
  rwa [← itr_congr h.lt (fun i hi => (fn_tab hi).symm) L i hi] at h3
theorem IsP.pre {f : Nat → Nat} {n : Nat} (h : IsP f n) {y : Nat} (hy : y < n) : ∃ u, u < n ∧ f u = y := by
  obtain ⟨L, h1, h2, h3⟩ := h.per hy
  obtain ⟨m, rfl⟩ : ∃ m, L = m + 1 := ⟨L - 1, by omega⟩
  exact ⟨itr f m y, itr_lt h.lt m y hy, h3⟩
/-- from a point of an orbit the way leads back -/
theorem IsP.back {f : Nat → Nat} {n : Nat} (h : IsP f n) {i j k : Nat} (hi : i < n) (e : itr f j i = k) : ∃ m, itr f m k = i := by
  obtain ⟨L, h1, h2, h3⟩ := h.per hi
  have hle : j ≤ L * (j + 1) := Nat.le_trans (Nat.le_succ j) (Nat.le_mul_of_pos_left _ h1)
  refine ⟨L * (j + 1) - j, ?_⟩
  rw [← e, ← itr_add, Nat.add_sub_cancel' hle]
  exact itr_mul h3 _

/-- the least point of its orbit -/
def mn (f : Nat → Nat) (k : Nat) : Prop := ∀ j, k ≤ itr f j k
noncomputable instance (f : Nat → Nat) (k : Nat) : Decidable (mn f k) := Classical.propDecidable _
noncomputable def mnc (f : Nat → Nat) : Nat → Nat
  | 0 => 0
  | k + 1 => mnc f k + if mn f k then 1 else 0
/-- the last point is passed by -/
def byp (f : Nat → Nat) (N : Nat) (x : Nat) : Nat := if f x = N then f N else f x
section
variable {f : Nat → Nat} {N : Nat} (h : IsP f (N + 1)) (hv : f N ≠ N)
include h hv
set_option linter.unusedSectionVars false
end
/-- the sign of a count -/
def sgn (m : Nat) : Int := if m % 2 = 0 then 1 else -1
end Go.Proofs.Ytgjfpmjllpgadaa

/-
  What a walk is told of a slice of ints: nil, empty or not. Nothing of the program is here.
-/
set_option linter.unusedVariables false
set_option linter.unusedSimpArgs false
namespace Go.Proofs.Ytgjfpmjllpgadaa
open Go.RowKit

/-- The cells of a slice value '.slice A vs.length cap' read as vs (one cell an element). -/
def Row (w : World) (A : Option Addr) (vs : List Value) : Prop :=
  vs ≠ [] → ∃ b o, A = some ⟨b, o, none⟩ ∧ b < w.heap.size ∧ ∀ i, i < vs.length → w.cell? ⟨b, o + i, none⟩ = some (vs.getD i undef)

def in64 (x : Int) : Prop := -9223372036854775808 ≤ x ∧ x ≤ 9223372036854775807

/-- The value '.slice A xs.length cap' reads as the list xs of ints. -/
structure IsInts (w : World) (A : Option Addr) (cap : Nat) (xs : List Int) : Prop where
  len : xs.length ≤ cap
  cap_le : cap ≤ 9223372036854775807
  bd : ∀ i, i < xs.length → in64 (xs.getD i 0)
  row : xs ≠ [] → ∃ b o, A = some ⟨b, o, none⟩ ∧ b < w.heap.size ∧ ∀ i, i < xs.length → w.cell? ⟨b, o + i, none⟩ = some (.int .i64 (xs.getD i 0))

theorem IsInts.below {w w' : World} {A : Option Addr} {cap : Nat} {xs : List Int} {B : Nat} (h : IsInts w A cap xs) (hb : Below B w w') (hB : w.heap.size ≤ B) : IsInts w' A cap xs :=
  ⟨h.len, h.cap_le, h.bd, fun hx => by
    obtain ⟨b, o, e, hl, hc⟩ := h.row hx
    exact ⟨b, o, e, Nat.lt_of_lt_of_le hl (Nat.le_trans (Nat.le_refl _) hb.size), fun i hi => (hb.cell (p := ⟨b, o + i, none⟩) (by show b < B; omega)).trans (hc i hi)⟩⟩

end Go.Proofs.Ytgjfpmjllpgadaa
