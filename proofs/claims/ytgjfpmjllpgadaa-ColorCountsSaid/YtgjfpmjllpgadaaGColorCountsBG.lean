/- Bits: shifts and masks of small numbers, sets as lists. No condition of its own. -/
import Derived.Test.YtgjfpmjllpgadaaGColorCountsBE
import Derived.Test.YtgjfpmjllpgadaaGColorCountsBF
import Derived.Test.YtgjfpmjllpgadaaGColorCountsAD
set_option linter.unusedVariables false
set_option linter.unusedSimpArgs false
namespace Go.Proofs.Ytgjfpmjllpgadaa
open Go.RowKit

theorem w64 {z : Int} (h : -9223372036854775808 ≤ z ∧ z ≤ 9223372036854775807) : IntKind.i64.wrap z = z := by
  simp [IntKind.wrap, IntKind.min, IntKind.max, IntKind.signed, IntKind.bits]
  omega
theorem bin_shr (b r : Nat) (hr : r ≤ 60) (t : TypeId) (x y : Operand) (w : World) : (do eqGuard .shr t x y (.int .i64 b) (.int .i64 r); binOp .shr t (.int .i64 b) (.int .i64 r) : Sem Value).run Try.prog w = .ok (.int .i64 ((b / 2 ^ r : Nat) : Int)) w := by
  have h1 : (eqGuard .shr t x y (.int .i64 b) (.int .i64 r)).run Try.prog w = .ok () w := rfl
  rw [Sem.run_bind, h1]
  have h2 : min r 64 = r := by omega
  have h3 : ¬ ((r : Int) < 0) := by omega
  simp [binOp, Op.shift, IntKind.bits, h2, h3, Int.fdiv_eq_ediv]
theorem bin_shl (r : Nat) (hr : r ≤ 60) (t : TypeId) (x y : Operand) (w : World) : (do eqGuard .shl t x y (.int .i64 1) (.int .i64 r); binOp .shl t (.int .i64 1) (.int .i64 r) : Sem Value).run Try.prog w = .ok (.int .i64 ((2 ^ r : Nat) : Int)) w := by
  have h1 : (eqGuard .shl t x y (.int .i64 1) (.int .i64 r)).run Try.prog w = .ok () w := rfl
  rw [Sem.run_bind, h1]
  have h2 : min r 64 = r := by omega
  have h3 : ¬ ((r : Int) < 0) := by omega
  have h4 : (2 : Nat) ^ r ≤ 2 ^ 60 := Nat.pow_le_pow_right (by decide) hr
  have e : (1 * 2 ^ r : Int) = ((2 ^ r : Nat) : Int) := by rw [Int.natCast_pow]; simp
  have h5 : IntKind.i64.wrap ((2 ^ r : Nat) : Int) = ((2 ^ r : Nat) : Int) := by
    generalize 2 ^ r = q at h4
    exact w64 (by omega)
  simp only [binOp, Op.shift, IntKind.bits, h3, if_false, Int.toNat_natCast, h2, Result.andThen_ok]
  rw [e, h5]
  rfl
theorem bits_and : ∀ b : Fin 64, IntKind.i64.wrap ((BitVec.ofInt IntKind.i64.bits ((b.val : Nat) : Int) &&& BitVec.ofInt IntKind.i64.bits 1).toNat : Int) = ((b.val % 2 : Nat) : Int) := by decide +kernel
theorem bin_and1 (b : Nat) (hb : b < 64) (t : TypeId) (x y : Operand) (w : World) : (do eqGuard .and t x y (.int .i64 b) (.int .i64 1); binOp .and t (.int .i64 b) (.int .i64 1) : Sem Value).run Try.prog w = .ok (.int .i64 ((b % 2 : Nat) : Int)) w := by
  have h1 : (eqGuard .and t x y (.int .i64 b) (.int .i64 1)).run Try.prog w = .ok () w := rfl
  rw [Sem.run_bind, h1]
  show Result.ok (Value.int .i64 (IntKind.i64.wrap ((BitVec.ofInt IntKind.i64.bits (b : Int) &&& BitVec.ofInt IntKind.i64.bits 1).toNat : Int))) w = _
  rw [bits_and ⟨b, hb⟩]
theorem bits_andNot : ∀ b : Fin 64, ∀ r : Fin 6, b.val / 2 ^ r.val % 2 = 1 → IntKind.i64.wrap ((BitVec.ofInt IntKind.i64.bits ((b.val : Nat) : Int) &&& ~~~ BitVec.ofInt IntKind.i64.bits ((2 ^ r.val : Nat) : Int)).toNat : Int) = ((b.val - 2 ^ r.val : Nat) : Int) := by decide +kernel
theorem bin_andNot (b r : Nat) (hb : b < 64) (hr : r < 6) (h : b / 2 ^ r % 2 = 1) (t : TypeId) (x y : Operand) (w : World) : (do eqGuard .andNot t x y (.int .i64 b) (.int .i64 ((2 ^ r : Nat) : Int)); binOp .andNot t (.int .i64 b) (.int .i64 ((2 ^ r : Nat) : Int)) : Sem Value).run Try.prog w = .ok (.int .i64 ((b - 2 ^ r : Nat) : Int)) w := by
  have h1 : (eqGuard .andNot t x y (.int .i64 b) (.int .i64 ((2 ^ r : Nat) : Int))).run Try.prog w = .ok () w := rfl
  rw [Sem.run_bind, h1]
  show Result.ok (Value.int .i64 (IntKind.i64.wrap ((BitVec.ofInt IntKind.i64.bits (b : Int) &&& ~~~ BitVec.ofInt IntKind.i64.bits ((2 ^ r : Nat) : Int)).toNat : Int))) w = _
  rw [bits_andNot ⟨b, hb⟩ ⟨r, hr⟩ h]

/-- the bits of b below n, in order -/
def bitsL (b n : Nat) : List Nat := (List.range n).filter fun i => b / 2 ^ i % 2 == 1
theorem mem_bits {b n i : Nat} : i ∈ bitsL b n ↔ i < n ∧ b / 2 ^ i % 2 = 1 := by simp [bitsL]
theorem asc_bits (b n : Nat) : Asc (bitsL b n) := List.Pairwise.filter _ (asc_range n)
theorem bits_succ (b n : Nat) : bitsL b (n + 1) = bitsL b n ++ (if b / 2 ^ n % 2 = 1 then [n] else []) := by
  unfold bitsL
  rw [List.range_succ, List.filter_append]
  congr 1
  by_cases h : b / 2 ^ n % 2 = 1
  · rw [if_pos h, List.filter_cons_of_pos (by simpa using h)]; rfl
  · rw [if_neg h, List.filter_cons_of_neg (by simpa using h)]; rfl
theorem bits_drop_dec : ∀ b : Fin 64, ∀ c : Fin 6, b.val / 2 ^ c.val % 2 = 1 → ∀ i : Fin 6, ((b.val - 2 ^ c.val) / 2 ^ i.val % 2 == 1) = ((b.val / 2 ^ i.val % 2 == 1) && (i.val != c.val)) := by decide +kernel
/-- a bit taken away -/
theorem bits_drop {b c n : Nat} (hb : b < 64) (hc : c < 6) (hn : n ≤ 6) (h : b / 2 ^ c % 2 = 1) : bitsL (b - 2 ^ c) n = (bitsL b n).filter fun x => x != c := by
  unfold bitsL
  rw [List.filter_filter]
  refine List.filter_congr (fun i hi => ?_)
  have := bits_drop_dec ⟨b, hb⟩ ⟨c, hc⟩ h ⟨i, by have := List.mem_range.1 hi; omega⟩
  simp only at this
  rw [this, Bool.and_comm]
/-- the bits below c, c, the bits above -/
theorem bits_split {b c n : Nat} (hc : c < n) (h : b / 2 ^ c % 2 = 1) : ∃ r, bitsL b n = bitsL b c ++ c :: r := by
  obtain ⟨m, rfl⟩ : ∃ m, n = c + 1 + m := ⟨n - c - 1, by omega⟩
  induction m with
  | zero => exact ⟨[], by rw [Nat.add_zero, bits_succ, if_pos h]⟩
  | succ m ih =>
    obtain ⟨r, hr⟩ := ih (by omega)
    refine ⟨r ++ (if b / 2 ^ (c + 1 + m) % 2 = 1 then [c + 1 + m] else []), ?_⟩
    rw [show c + 1 + (m + 1) = (c + 1 + m) + 1 by omega, bits_succ, hr]
    simp
theorem bits_take {b c n : Nat} (hc : c < n) (h : b / 2 ^ c % 2 = 1) {r : List Nat} (e : bitsL b n = bitsL b c ++ c :: r) (hb : b < 64) (hc6 : c < 6) (hn : n ≤ 6) : bitsL (b - 2 ^ c) n = bitsL b c ++ r := by
  rw [bits_drop hb hc6 hn h, e]
  have := asc_bits b n
  rw [e] at this
  exact (asc_split this).1
theorem bits_len (b n : Nat) : (bitsL b n).length ≤ n := by
  unfold bitsL
  exact Nat.le_trans (List.length_filter_le _ _) (by simp)
theorem bits_sub_lt {b c : Nat} (hb : b < 64) : b - 2 ^ c < 64 := Nat.lt_of_le_of_lt (Nat.sub_le _ _) hb

/-! ### how large determinants become -/
theorem mul_bd {x y A B : Int} (hx : -A ≤ x ∧ x ≤ A) (hy : -B ≤ y ∧ y ≤ B) (hA : 0 ≤ A) (hB : 0 ≤ B) : -(A * B) ≤ x * y ∧ x * y ≤ A * B := by
  obtain ⟨a, rfl⟩ := Int.eq_ofNat_of_zero_le hA
  obtain ⟨b, rfl⟩ := Int.eq_ofNat_of_zero_le hB
  have h := Nat.mul_le_mul (show x.natAbs ≤ a by omega) (show y.natAbs ≤ b by omega)
  rw [← Int.natAbs_mul] at h
  rw [← Int.natCast_mul]
  generalize a * b = p at h ⊢
  generalize x * y = q at h ⊢
  omega
theorem sgn_cases (m : Nat) : sgn m = 1 ∨ sgn m = -1 := by unfold sgn; split <;> simp
def pow600 : Nat → Int
  | 0 => 1
  | k + 1 => 600 * pow600 k
theorem pow600_pos : ∀ k, 0 < pow600 k
  | 0 => by decide
  | k + 1 => by have := pow600_pos k; show 0 < 600 * pow600 k; omega
theorem alts_bd2 {F : Nat → List Nat → Int} {B : Int} (hB : 0 ≤ B) : ∀ (b : List Nat) (j : Nat) (a : List Nat), (∀ a1 x b1, a ++ b = a1 ++ x :: b1 → -B ≤ F x (a1 ++ b1) ∧ F x (a1 ++ b1) ≤ B) → -(b.length * B) ≤ alts F j a b ∧ alts F j a b ≤ b.length * B
  | [], _, _, _ => by simp [alts]
  | x :: b, j, a, h => by
    have ih := alts_bd2 hB b (j + 1) (a ++ [x]) (fun a1 y b1 e => h a1 y b1 (by rw [← e]; simp))
    have h1 := h a x b rfl
    have e : ((b.length + 1 : Nat) : Int) * B = b.length * B + B := by push_cast; rw [Int.add_mul]; omega
    simp only [alts, List.length_cons]
    rw [e]
    rcases sgn_cases j with h2 | h2 <;> rw [h2] <;> omega
theorem lap_bd {M : Nat → Nat → Int} (hM : ∀ r c, -100 ≤ M r c ∧ M r c ≤ 100) : ∀ (rs cs : List Nat), cs.length ≤ 6 → -(pow600 rs.length) ≤ lap M rs cs ∧ lap M rs cs ≤ pow600 rs.length
  | [], _, _ => by simp [lap, pow600]
  | r :: rs, cs, hc => by
    have hp := pow600_pos rs.length
    have h := alts_bd2 (F := fun c rest => M r c * lap M rs rest) (B := 100 * pow600 rs.length) (by omega) cs 0 [] (fun a1 x b1 e => by
      have hl := lap_bd hM rs (a1 ++ b1) (by have := congrArg List.length e; simp at this ⊢; omega)
      exact mul_bd (hM r x) hl (by decide) (by omega))
    show -(600 * pow600 rs.length) ≤ alts _ 0 [] cs ∧ alts _ 0 [] cs ≤ 600 * pow600 rs.length
    generalize pow600 rs.length = B at hp h ⊢
    have h2 : (cs.length : Int) * (100 * B) ≤ 6 * (100 * B) := Int.mul_le_mul_of_nonneg_right (by omega) (by omega)
    omega
end Go.Proofs.Ytgjfpmjllpgadaa
