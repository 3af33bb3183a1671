/-
  The inverse modulo p, by Euclid's way and by trying. Plain facts: nothing of the program is here.
-/
import Derived.Test.YthkbcgggbgkfmaaPlain
set_option linter.unusedVariables false
namespace Go.Proofs.Ythkbcgggbgkfmaa

/-- x is the inverse of q modulo p. -/
def InvM (p q x : Int) : Prop := 1 ≤ x ∧ x < p ∧ (x * q) % p = 1
theorem InvM.uniq {p q x y : Int} (hx : InvM p q x) (hy : InvM p q y) : x = y := by
  obtain ⟨x1, x2, x3⟩ := hx
  obtain ⟨y1, y2, y3⟩ := hy
  have hp : 2 ≤ p := by omega
  have e1 : (x * (y * q)) % p = x := by
    rw [Int.mul_emod, y3, Int.mul_one, Int.emod_emod_of_dvd _ (Int.dvd_refl _)]
    exact Int.emod_eq_of_lt (by omega) (by omega)
  have e2 : (x * (y * q)) % p = y := by
    rw [← Int.mul_assoc, Int.mul_comm x y, Int.mul_assoc, Int.mul_emod, x3, Int.mul_one, Int.emod_emod_of_dvd _ (Int.dvd_refl _)]
    exact Int.emod_eq_of_lt (by omega) (by omega)
  omega

/-- What holds at each round of Euclid's loop for p and q. -/
structure Eu (p q a b x y : Int) : Prop where
  b1 : 1 ≤ b
  ab : b ≤ a
  ap : a ≤ p
  g : Int.gcd a b = 1
  ha : p ∣ a - x * q
  hb : p ∣ b - y * q
  sg : (x ≤ 0 ∧ 0 ≤ y) ∨ (0 ≤ x ∧ y ≤ 0)
  sm : (y.natAbs : Int) * a + (x.natAbs : Int) * b = p

theorem Eu.start {p q : Int} (hp : 2 ≤ p) (hq : 1 ≤ q) (hqp : q < p) (hg : Int.gcd p q = 1) : Eu p q p q 0 1 :=
  ⟨hq, by omega, Int.le_refl _, hg, ⟨1, by omega⟩, ⟨0, by omega⟩, .inl ⟨by omega, by omega⟩, by simp⟩
theorem Eu.bd {p q a b x y : Int} (h : Eu p q a b x y) : -p ≤ x ∧ x ≤ p ∧ -p ≤ y ∧ y ≤ p := by
  have h1 : 0 ≤ (y.natAbs : Int) * (a - 1) := Int.mul_nonneg (by omega) (by have := h.b1; have := h.ab; omega)
  have h2 : 0 ≤ (x.natAbs : Int) * (b - 1) := Int.mul_nonneg (by omega) (by have := h.b1; omega)
  have h3 := h.sm
  rw [Int.mul_sub, Int.mul_one] at h1 h2
  omega
theorem Eu.done {p q a x y : Int} (h : Eu p q a 1 x y) (hp : 2 ≤ p) : InvM p q (y % p) := by
  obtain ⟨k, hk⟩ := h.hb
  have e : (y % p * q) % p = 1 := by
    rw [Int.mul_emod, Int.emod_emod_of_dvd _ (Int.dvd_refl _), ← Int.mul_emod]
    have : y * q = 1 + p * (-k) := by rw [Int.mul_neg]; omega
    rw [this, Int.add_mul_emod_self_left]
    exact Int.emod_eq_of_lt (by omega) (by omega)
  have h0 := Int.emod_nonneg y (show p ≠ 0 by omega)
  have h1 := Int.emod_lt_of_pos y (show 0 < p by omega)
  refine ⟨?_, h1, e⟩
  apply Classical.byContradiction; intro c
  have : y % p = 0 := by omega
  rw [this] at e
  simp at e
theorem Eu.facts {p q a b x y : Int} (h : Eu p q a b x y) (hb : 1 < b) : 1 ≤ a / b ∧ a / b ≤ a ∧ 0 ≤ a / b * b ∧ a / b * b ≤ a ∧ -p ≤ a / b * y ∧ a / b * y ≤ p := by
  have h1 := h.ab
  have h2 := h.b1
  have hd : 1 ≤ a / b := by rw [Int.le_ediv_iff_mul_le (by omega)]; omega
  have hd2 : a / b ≤ a := Int.ediv_le_self _ (by omega)
  have hm := Int.ediv_mul_le a (show b ≠ 0 by omega)
  have h3 : 0 ≤ (y.natAbs : Int) * (a - a / b) := Int.mul_nonneg (by omega) (by omega)
  have h4 : 0 ≤ (x.natAbs : Int) * b := Int.mul_nonneg (by omega) (by omega)
  have h5 := h.sm
  have h6 : ((a / b * y).natAbs : Int) = (y.natAbs : Int) * (a / b) := by rw [Int.natAbs_mul, Int.natCast_mul, Int.mul_comm]; congr 1; omega
  rw [Int.mul_sub] at h3
  refine ⟨hd, hd2, Int.mul_nonneg (by omega) (by omega), hm, by omega, by omega⟩
theorem Eu.step {p q a b x y : Int} (h : Eu p q a b x y) (hb : 1 < b) : Eu p q b (a - a / b * b) y (x - a / b * y) ∧ a - a / b * b < b := by
  obtain ⟨f1, f2, f3, f4, f5, f6⟩ := h.facts hb
  have hr : a - a / b * b = a % b := by have := Int.emod_add_mul_ediv a b; rw [Int.mul_comm] at this; omega
  have h0 := Int.emod_nonneg a (show b ≠ 0 by omega)
  have h1 := Int.emod_lt_of_pos a (show 0 < b by omega)
  have hg : Int.gcd b (a % b) = 1 := by
    have e : a % b = a + (-(a / b)) * b := by rw [Int.neg_mul]; omega
    rw [e, Int.gcd_add_mul_right_right, Int.gcd_comm]; exact h.g
  have hne : a % b ≠ 0 := by
    intro e
    rw [e, Int.gcd_zero_right] at hg
    omega
  refine ⟨⟨by omega, by omega, by have := h.ab; have := h.ap; omega, by rw [hr]; exact hg, h.hb, ?_, ?_, ?_⟩, by omega⟩
  · obtain ⟨u, hu⟩ := h.ha
    obtain ⟨v, hv⟩ := h.hb
    refine ⟨u - a / b * v, ?_⟩
    have e1 : a = x * q + p * u := by omega
    have e2 : b = y * q + p * v := by omega
    generalize a / b = k
    have e3 : (x - k * y) * q = x * q - k * (y * q) := by rw [Int.sub_mul, Int.mul_assoc]
    have e4 : p * (u - k * v) = p * u - k * (p * v) := by rw [Int.mul_sub, Int.mul_left_comm]
    have e5 : k * b = k * (y * q) + k * (p * v) := by rw [← Int.mul_add, ← e2]
    omega
  · rcases h.sg with ⟨s1, s2⟩ | ⟨s1, s2⟩
    · right
      have : 0 ≤ a / b * y := Int.mul_nonneg (by omega) s2
      exact ⟨s2, by omega⟩
    · left
      have : a / b * y ≤ 0 := Int.mul_nonpos_of_nonneg_of_nonpos (by omega) s2
      exact ⟨s2, by omega⟩
  · have hs := h.sm
    have hn : ((x - a / b * y).natAbs : Int) = (x.natAbs : Int) + a / b * (y.natAbs : Int) := by
      rcases h.sg with ⟨s1, s2⟩ | ⟨s1, s2⟩
      · have h7 : 0 ≤ a / b * y := Int.mul_nonneg (by omega) s2
        have h8 : (y.natAbs : Int) = y := by omega
        rw [h8]; omega
      · have h7 : a / b * y ≤ 0 := Int.mul_nonpos_of_nonneg_of_nonpos (by omega) s2
        have h8 : (y.natAbs : Int) = -y := by omega
        rw [h8, Int.mul_neg]; omega
    rw [hn]
    generalize (y.natAbs : Int) = Y at *
    generalize (x.natAbs : Int) = X at *
    generalize a / b = k at *
    have e1 : (X + k * Y) * b = X * b + Y * (k * b) := by rw [Int.add_mul, Int.mul_comm k Y, Int.mul_assoc]
    have e2 : Y * (a - k * b) = Y * a - Y * (k * b) := Int.mul_sub ..
    omega

end Go.Proofs.Ythkbcgggbgkfmaa
