/- Integer matrices that are alike up to additions of rows and columns. Plain facts: nothing of the program is here. -/
import Derived.Test.YtgjfpmjllpgadaaGColorCountsAG
set_option linter.unusedVariables false
set_option linter.unusedSimpArgs false
namespace Go.Proofs.Ytgjfpmjllpgadaa

/-- N comes from M by additions of rows s, .. , n - 1 and of columns s, .. , k - 1 -/
inductive Eqv (s n k : Nat) (M : Nat → Nat → Int) : (Nat → Nat → Int) → Prop where
  | refl : Eqv s n k M M
  | row {N : Nat → Nat → Int} (h : Eqv s n k M N) {i j : Nat} (hi : s ≤ i ∧ i < n) (hj : s ≤ j ∧ j < n) (hij : i ≠ j) (c : Int) : Eqv s n k M (rowAdd N i j c)
  | col {N : Nat → Nat → Int} (h : Eqv s n k M N) {a b : Nat} (ha : s ≤ a ∧ a < k) (hb : s ≤ b ∧ b < k) (hab : a ≠ b) (c : Int) : Eqv s n k M (colAdd N a b c)
theorem Eqv.trans {s n k : Nat} {M N L : Nat → Nat → Int} (h1 : Eqv s n k M N) (h2 : Eqv s n k N L) : Eqv s n k M L := by
  induction h2 with
  | refl => exact h1
  | row _ hi hj hij c ih => exact ih.row hi hj hij c
  | col _ ha hb hab c ih => exact ih.col ha hb hab c
theorem Eqv.low {s t n k : Nat} {M N : Nat → Nat → Int} (h : Eqv s n k M N) (ht : t ≤ s) : Eqv t n k M N := by
  induction h with
  | refl => exact .refl
  | row _ hi hj hij c ih => exact ih.row ⟨by omega, hi.2⟩ ⟨by omega, hj.2⟩ hij c
  | col _ ha hb hab c ih => exact ih.col ⟨by omega, ha.2⟩ ⟨by omega, hb.2⟩ hab c
theorem row_back (M : Nat → Nat → Int) {i j : Nat} (hij : i ≠ j) (c : Int) : rowAdd (rowAdd M i j c) i j (-c) = M := by
  funext r x
  unfold rowAdd
  by_cases h : r = i
  · subst h
    rw [if_pos rfl, if_pos rfl, if_neg (fun e => hij e.symm), Int.neg_mul]; omega
  · rw [if_neg h, if_neg h]
theorem col_back (M : Nat → Nat → Int) {a b : Nat} (hab : a ≠ b) (c : Int) : colAdd (colAdd M a b c) a b (-c) = M := by
  funext r x
  unfold colAdd
  by_cases h : x = a
  · subst h
    rw [if_pos rfl, if_pos rfl, if_neg (fun e => hab e.symm), Int.neg_mul]; omega
  · rw [if_neg h, if_neg h]
/-- what divides all minors is the same -/
theorem Eqv.dv {s n k : Nat} {M N : Nat → Nat → Int} (h : Eqv s n k M N) (q g : Nat) : DvM M n k q g ↔ DvM N n k q g := by
  induction h with
  | refl => exact Iff.rfl
  | @row N _ i j hi hj hij c ih =>
    refine ih.trans ⟨fun h => h.row hj.2 c, fun h => ?_⟩
    have := h.row hj.2 (-c) (i := i)
    rwa [row_back N hij c] at this
  | @col N _ a b ha hb hab c ih =>
    refine ih.trans ⟨fun h => h.col hb.2 c, fun h => ?_⟩
    have := h.col hb.2 (-c) (a := a)
    rwa [col_back N hab c] at this
/-- a number that divides the block divides it still -/
theorem Eqv.blk {s n k : Nat} {M N : Nat → Nat → Int} (h : Eqv s n k M N) {d : Int} (hd : ∀ r c, s ≤ r → r < n → s ≤ c → c < k → d ∣ M r c) : ∀ r c, s ≤ r → r < n → s ≤ c → c < k → d ∣ N r c := by
  induction h with
  | refl => exact hd
  | @row N _ i j hi hj hij c ih =>
    intro r x h1 h2 h3 h4
    unfold rowAdd
    split
    · rename_i e
      subst e
      exact Int.dvd_add (ih _ _ h1 h2 h3 h4) (Int.dvd_trans (ih _ _ hj.1 hj.2 h3 h4) (Int.dvd_mul_left _ _))
    · exact ih _ _ h1 h2 h3 h4
  | @col N _ a b ha hb hab c ih =>
    intro r x h1 h2 h3 h4
    unfold colAdd
    split
    · rename_i e
      subst e
      exact Int.dvd_add (ih _ _ h1 h2 h3 h4) (Int.dvd_trans (ih _ _ h1 h2 hb.1 hb.2) (Int.dvd_mul_left _ _))
    · exact ih _ _ h1 h2 h3 h4
/-- what lies outside the block, if it is zero beside it, stays -/
theorem Eqv.out {s n k : Nat} {M N : Nat → Nat → Int} (h : Eqv s n k M N) (hz : ∀ r c, r < n → c < k → (r < s ∧ s ≤ c ∨ s ≤ r ∧ c < s) → M r c = 0) : (∀ r c, r < n → c < k → (r < s ∧ s ≤ c ∨ s ≤ r ∧ c < s) → N r c = 0) ∧ ∀ r c, r < s → c < s → N r c = M r c := by
  induction h with
  | refl => exact ⟨hz, fun _ _ _ _ => rfl⟩
  | @row N _ i j hi hj hij c ih =>
    refine ⟨fun r x h1 h2 h3 => ?_, fun r x h1 h2 => ?_⟩
    · unfold rowAdd
      split
      · rename_i e
        subst e
        rw [ih.1 _ _ h1 h2 h3, ih.1 j x hj.2 h2 (by omega), Int.mul_zero]; rfl
      · exact ih.1 _ _ h1 h2 h3
    · unfold rowAdd
      rw [if_neg (by omega)]; exact ih.2 _ _ h1 h2
  | @col N _ a b ha hb hab c ih =>
    refine ⟨fun r x h1 h2 h3 => ?_, fun r x h1 h2 => ?_⟩
    · unfold colAdd
      split
      · rename_i e
        subst e
        rw [ih.1 _ _ h1 h2 h3, ih.1 r b h1 hb.2 (by omega), Int.mul_zero]; rfl
      · exact ih.1 _ _ h1 h2 h3
    · unfold colAdd
      rw [if_neg (by omega)]; exact ih.2 _ _ h1 h2
end Go.Proofs.Ytgjfpmjllpgadaa

/- Every integer matrix is like a diagonal one (Smith). Plain facts: nothing of the program is here. -/
set_option linter.unusedVariables false
set_option linter.unusedSimpArgs false
namespace Go.Proofs.Ytgjfpmjllpgadaa

theorem least {P : Nat → Prop} (h : ∃ v, P v) : ∃ v, P v ∧ ∀ u, P u → v ≤ u := by
  obtain ⟨v, hv⟩ := h
  induction v using Nat.strongRecOn with
  | _ v ih =>
    by_cases hu : ∃ u, u < v ∧ P u
    · obtain ⟨u, h1, h2⟩ := hu
      exact ih u h1 h2
    · exact ⟨v, hv, fun u h => Classical.byContradiction fun hc => hu ⟨u, by omega, h⟩⟩
/-- no entry of the class but 0 is less than e -/
def Min (s n k : Nat) (M : Nat → Nat → Int) (e : Int) : Prop := e ≠ 0 ∧ ∀ N, Eqv s n k M N → ∀ r c, s ≤ r → r < n → s ≤ c → c < k → N r c ≠ 0 → e.natAbs ≤ (N r c).natAbs
theorem rest_lt {a e : Int} (he : e ≠ 0) : (a + -(a / e) * e).natAbs < e.natAbs := by
  have h1 : a + -(a / e) * e = a % e := by
    have := Int.emod_add_mul_ediv a e
    rw [Int.neg_mul, Int.mul_comm (a / e)]; omega
  have h2 := Int.emod_nonneg a he
  have h3 := Int.emod_lt a he
  rw [h1]; omega
section
variable {s n k : Nat} {M : Nat → Nat → Int} {e : Int} (hm : Min s n k M e)
include hm
theorem Min.col {N : Nat → Nat → Int} (h : Eqv s n k M N) {r0 c : Nat} (h0 : s ≤ r0 ∧ r0 < n) (hc : s ≤ c ∧ c < k) (he : N r0 c = e) {r : Nat} (hr : s ≤ r ∧ r < n) : e ∣ N r c := by
  by_cases hrr : r = r0
  · rw [hrr, he]; exact Int.dvd_refl _
  · have e1 : rowAdd N r r0 (-(N r c / e)) r c = N r c + -(N r c / e) * e := by
      show (if r = r then _ else _) = _
      rw [if_pos rfl, he]
    have h2 := hm.2 _ (h.row hr h0 hrr (-(N r c / e))) r c hr.1 hr.2 hc.1 hc.2
    rw [e1] at h2
    have h3 := rest_lt (a := N r c) hm.1
    have h4 : N r c + -(N r c / e) * e = 0 := Classical.byContradiction fun hh => by have := h2 hh; omega
    exact ⟨N r c / e, by rw [Int.neg_mul] at h4; rw [Int.mul_comm]; omega⟩
theorem Min.row {N : Nat → Nat → Int} (h : Eqv s n k M N) {r c0 : Nat} (hr : s ≤ r ∧ r < n) (h0 : s ≤ c0 ∧ c0 < k) (he : N r c0 = e) {c : Nat} (hc : s ≤ c ∧ c < k) : e ∣ N r c := by
  by_cases hcc : c = c0
  · rw [hcc, he]; exact Int.dvd_refl _
  · have e1 : colAdd N c c0 (-(N r c / e)) r c = N r c + -(N r c / e) * e := by
      show (if c = c then _ else _) = _
      rw [if_pos rfl, he]
    have h2 := hm.2 _ (h.col hc h0 hcc (-(N r c / e))) r c hr.1 hr.2 hc.1 hc.2
    rw [e1] at h2
    have h3 := rest_lt (a := N r c) hm.1
    have h4 : N r c + -(N r c / e) * e = 0 := Classical.byContradiction fun hh => by have := h2 hh; omega
    exact ⟨N r c / e, by rw [Int.neg_mul] at h4; rw [Int.mul_comm]; omega⟩
/-- e comes to the corner -/
theorem Min.corner (hs : s < n ∧ s < k) {N : Nat → Nat → Int} (h : Eqv s n k M N) {r0 c0 : Nat} (hr : s ≤ r0 ∧ r0 < n) (hc : s ≤ c0 ∧ c0 < k) (he : N r0 c0 = e) : ∃ L, Eqv s n k M L ∧ L s s = e := by
  obtain ⟨N1, h1, e1⟩ : ∃ N1, Eqv s n k M N1 ∧ N1 s c0 = e := by
    by_cases hrr : r0 = s
    · exact ⟨N, h, by rw [← hrr]; exact he⟩
    · obtain ⟨t, ht⟩ := hm.col h hr hc he (r := s) ⟨Nat.le_refl _, hs.1⟩
      refine ⟨_, h.row ⟨Nat.le_refl _, hs.1⟩ hr (fun e => hrr e.symm) (1 - t), ?_⟩
      show (if s = s then _ else _) = _
      rw [if_pos rfl, he, ht, Int.sub_mul, Int.mul_comm t]; omega
  by_cases hcc : c0 = s
  · exact ⟨N1, h1, by rw [← e1, hcc]⟩
  · obtain ⟨t, ht⟩ := hm.row h1 ⟨Nat.le_refl _, hs.1⟩ hc e1 (c := s) ⟨Nat.le_refl _, hs.2⟩
    refine ⟨_, h1.col ⟨Nat.le_refl _, hs.2⟩ hc (fun e => hcc e.symm) (1 - t), ?_⟩
    show (if s = s then _ else _) = _
    rw [if_pos rfl, e1, ht, Int.sub_mul, Int.mul_comm t]; omega
theorem Min.clearR (hs : s < n ∧ s < k) {N : Nat → Nat → Int} (h : Eqv s n k M N) (he : N s s = e) : ∀ d : Nat, ∃ L, Eqv s n k M L ∧ L s s = e ∧ ∀ r, s < r → r < s + 1 + d → r < n → L r s = 0
  | 0 => ⟨N, h, he, fun r h1 h2 _ => by omega⟩
  | d + 1 => by
    obtain ⟨L, h1, h2, h3⟩ := Min.clearR hs h he d
    by_cases hn : s + 1 + d < n
    · obtain ⟨t, ht⟩ := hm.col h1 ⟨Nat.le_refl _, hs.1⟩ ⟨Nat.le_refl _, hs.2⟩ h2 (r := s + 1 + d) ⟨by omega, hn⟩
      refine ⟨_, h1.row (i := s + 1 + d) ⟨by omega, hn⟩ (j := s) ⟨Nat.le_refl _, hs.1⟩ (by omega) (-t), ?_, fun r g1 g2 g3 => ?_⟩
      · show (if s = s + 1 + d then _ else _) = _
        rw [if_neg (by omega)]; exact h2
      · show (if r = s + 1 + d then _ else _) = _
        split
        · rw [ht, h2, Int.neg_mul, Int.mul_comm t]; omega
        · exact h3 r g1 (by omega) g3
    · exact ⟨L, h1, h2, fun r g1 g2 g3 => h3 r g1 (by omega) g3⟩
theorem Min.clearC (hs : s < n ∧ s < k) {N : Nat → Nat → Int} (h : Eqv s n k M N) (he : N s s = e) (hz : ∀ r, s < r → r < n → N r s = 0) : ∀ d : Nat, ∃ L, Eqv s n k M L ∧ L s s = e ∧ (∀ r, s < r → r < n → L r s = 0) ∧ ∀ c, s < c → c < s + 1 + d → c < k → L s c = 0
  | 0 => ⟨N, h, he, hz, fun r h1 h2 _ => by omega⟩
  | d + 1 => by
    obtain ⟨L, h1, h2, h4, h3⟩ := Min.clearC hs h he hz d
    by_cases hn : s + 1 + d < k
    · obtain ⟨t, ht⟩ := hm.row h1 ⟨Nat.le_refl _, hs.1⟩ ⟨Nat.le_refl _, hs.2⟩ h2 (c := s + 1 + d) ⟨by omega, hn⟩
      refine ⟨_, h1.col (a := s + 1 + d) ⟨by omega, hn⟩ (b := s) ⟨Nat.le_refl _, hs.2⟩ (by omega) (-t), ?_, fun r g1 g2 => ?_, fun c g1 g2 g3 => ?_⟩
      · show (if s = s + 1 + d then _ else _) = _
        rw [if_neg (by omega)]; exact h2
      · show (if s = s + 1 + d then _ else _) = _
        rw [if_neg (by omega)]; exact h4 r g1 g2
      · show (if c = s + 1 + d then _ else _) = _
        split
        · rw [ht, h2, Int.neg_mul, Int.mul_comm t]; omega
        · exact h3 c g1 (by omega) g3
    · exact ⟨L, h1, h2, h4, fun c g1 g2 g3 => h3 c g1 (by omega) g3⟩
/-- row and column of the corner are clear, and the corner divides the rest -/
theorem Min.done (hs : s < n ∧ s < k) {N : Nat → Nat → Int} (h : Eqv s n k M N) {r0 c0 : Nat} (hr : s ≤ r0 ∧ r0 < n) (hc : s ≤ c0 ∧ c0 < k) (he : N r0 c0 = e) :
    ∃ L, Eqv s n k M L ∧ (∀ r, s < r → r < n → L r s = 0) ∧ (∀ c, s < c → c < k → L s c = 0) ∧ ∀ r c, s ≤ r → r < n → s ≤ c → c < k → L s s ∣ L r c := by
  obtain ⟨L1, h1, e1⟩ := hm.corner hs h hr hc he
  obtain ⟨L2, h2, e2, z2⟩ := hm.clearR hs h1 e1 n
  obtain ⟨L3, h3, e3, z3, w3⟩ := hm.clearC hs h2 e2 (fun r g1 g2 => z2 r g1 (by omega) g2) k
  refine ⟨L3, h3, z3, fun c g1 g2 => w3 c g1 (by omega) g2, fun r c g1 g2 g3 g4 => ?_⟩
  rw [e3]
  by_cases hrs : r = s
  · rw [hrs]; exact hm.row h3 ⟨Nat.le_refl _, hs.1⟩ ⟨Nat.le_refl _, hs.2⟩ e3 ⟨g3, g4⟩
  · by_cases hcs : c = s
    · rw [hcs, z3 r (by omega) g2]; exact Int.dvd_zero _
    · have h4 := h3.row (i := s) ⟨Nat.le_refl _, hs.1⟩ (j := r) ⟨g1, g2⟩ (fun e => hrs e.symm) 1
      have e4 : rowAdd L3 s r 1 s s = e := by
        show (if s = s then _ else _) = _
        rw [if_pos rfl, e3, z3 r (by omega) g2, Int.mul_zero, Int.add_zero]
      have := hm.row h4 ⟨Nat.le_refl _, hs.1⟩ ⟨Nat.le_refl _, hs.2⟩ e4 (c := c) ⟨g3, g4⟩
      have e5 : rowAdd L3 s r 1 s c = L3 r c := by
        show (if s = s then _ else _) = _
        rw [if_pos rfl, w3 c (by omega) (by omega) g4, Int.one_mul, Int.zero_add]
      rwa [e5] at this
end
end Go.Proofs.Ytgjfpmjllpgadaa
