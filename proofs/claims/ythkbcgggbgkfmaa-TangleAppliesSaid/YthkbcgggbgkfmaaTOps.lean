/- Contracts of functions of this seat, and plain facts for them: used by the claims. No condition of its own. -/
import Derived.Test.YthkbcgggbgkfmaaTCheck
import Derived.StillTailTactics
set_option linter.unusedVariables false
namespace Go.Proofs.Ythkbcgggbgkfmaa
open Go.RowKit

def frac (p : Int × Int) : Value := .agg #[.int .i64 p.1, .int .i64 p.2]
def inv (p : Int × Int) : Int × Int := if p.1 < 0 then (-p.2, -p.1) else if p.1 = 0 then (1, 0) else (p.2, p.1)
def plusF (p : Int × Int) (k : Int) : Int × Int := (p.1 + k * p.2, p.2)

set_option maxHeartbeats 400000 in
theorem plus_c (n d k : Int) (w : World) (hn : -10000000000000 ≤ n ∧ n ≤ 10000000000000) (hk : -10000000000000 ≤ k * d ∧ k * d ≤ 10000000000000) :
    Calls Try.prog 24 #[.agg #[.int .i64 n, .int .i64 d], .int .i64 k] w fun e w' => e = .returned (.agg #[.int .i64 (n + k * d), .int .i64 d]) ∧ Below w.heap.size w w' := by
  obtain ⟨hn1, hn2⟩ := hn
  obtain ⟨hk1, hk2⟩ := hk
  go_enter Try.func24, Try.ntmps24
  go_wp2
  exact bodyPost_ret (v := .agg #[.int .i64 (n + k * d), .int .i64 d]) (by simp [results, Try.results24, go_sem]) rfl ⟨rfl, ((Below.refl _ _).alloc (Nat.le_refl _) _).alloc (by simp) _⟩

set_option maxHeartbeats 400000 in
theorem inverse_c (n d : Int) (w : World) (hn : -10000000000000 ≤ n ∧ n ≤ 10000000000000) (hd : -10000000000000 ≤ d ∧ d ≤ 10000000000000) :
    Calls Try.prog 25 #[.agg #[.int .i64 n, .int .i64 d]] w fun e w' => e = .returned (.agg #[.int .i64 (inv (n, d)).1, .int .i64 (inv (n, d)).2]) ∧ Below w.heap.size w w' := by
  obtain ⟨hn1, hn2⟩ := hn
  obtain ⟨hd1, hd2⟩ := hd
  by_cases h1 : n < 0
  · have HI : Hid (inv (n, d) = (-d, -n)) := by unfold Hid inv; rw [if_pos h1]
    go_enter Try.func25, Try.ntmps25
    go_wp2
    rw [HI.out]
    exact bodyPost_ret (v := .agg #[.int .i64 (-d), .int .i64 (-n)]) (by simp [results, Try.results25, go_sem]) rfl ⟨rfl, ((Below.refl _ _).alloc (Nat.le_refl _) _).alloc (by simp) _⟩
  · by_cases h2 : n = 0
    · subst h2
      have HI : Hid (inv (0, d) = (1, 0)) := by unfold Hid inv; rw [if_neg h1, if_pos rfl]
      go_enter Try.func25, Try.ntmps25
      go_wp2
      rw [HI.out]
      exact bodyPost_ret (v := .agg #[.int .i64 1, .int .i64 0]) (by simp [results, Try.results25, go_sem]) rfl ⟨rfl, ((Below.refl _ _).alloc (Nat.le_refl _) _).alloc (by simp) _⟩
    · have HI : Hid (inv (n, d) = (d, n)) := by unfold Hid inv; rw [if_neg h1, if_neg h2]
      have h2' : (n == 0) = false := by simpa using h2
      go_enter Try.func25, Try.ntmps25
      go_wp2
      rw [HI.out]
      exact bodyPost_ret (v := .agg #[.int .i64 d, .int .i64 n]) (by simp [results, Try.results25, go_sem]) rfl ⟨rfl, ((Below.refl _ _).alloc (Nat.le_refl _) _).alloc (by simp) _⟩

set_option maxHeartbeats 400000 in
theorem size_c (n : Int) (w : World) (hn : -10000000000000 ≤ n ∧ n ≤ 10000000000000) :
    Calls Try.prog 27 #[.int .i64 n] w fun e w' => e = .returned (.int .i64 (n.natAbs : Int)) ∧ w = w' := by
  obtain ⟨hn1, hn2⟩ := hn
  go_enter Try.func27, Try.ntmps27
  go_wp2
  go_ret
  exact ⟨ret_int (by omega), rfl⟩

/-- What fit gives back: the fraction, or nothing and the error 2. -/
def fitV (n d : Int) : Value := if faultF n d = 0 then .agg #[.int .i64 n, .int .i64 d] else .agg #[.int .i64 0, .int .i64 0]
def fitE (n d : Int) : Int := if faultF n d = 0 then 0 else 2

set_option maxHeartbeats 400000 in
theorem fit_c (n d : Int) (w : World) :
    Calls Try.prog 26 #[.agg #[.int .i64 n, .int .i64 d]] w fun e w' => e = .returned (.tuple #[fitV n d, .int .i64 (fitE n d)]) ∧ Below w.heap.size w w' := by
  unfold fitV fitE
  by_cases hf : faultF n d = 0
  · rw [if_pos hf, if_pos hf]
    have HF := Lib.hid hf
    clear hf
    go_enter Try.func26, Try.ntmps26
    go_wp2_with (go_at_call 10; refine (tcheck_c _ _ _).mono ?_; rw [HF.out]; rintro e w1 ⟨rfl, hb1⟩; obtain ⟨hc, hfr⟩ := bcell hb1)
    have hz : w.heap.size + 1 < w1.heap.size := by have := hb1.size; simp at this; omega
    exact bodyPost_ret (v := .tuple #[.agg #[.int .i64 n, .int .i64 d], .int .i64 0]) (by simp [results, Try.results26, go_sem, hc]) rfl ⟨rfl, (((((Below.refl _ _).alloc (Nat.le_refl _) _).alloc (by simp) _).trans (hb1.mono (by simp; omega))).setCell (by simp) _).setCell (by simp) _⟩
  · rw [if_neg hf, if_neg hf]
    have hf2 : (faultF n d != 0) = true := by simpa using hf
    clear hf
    go_enter Try.func26, Try.ntmps26
    go_wp2_with (go_at_call 10; refine (tcheck_c _ _ _).mono ?_; rintro e w1 ⟨rfl, hb1⟩; obtain ⟨hc, hfr⟩ := bcell hb1)
    have hz : w.heap.size + 1 < w1.heap.size := by have := hb1.size; simp at this; omega
    exact bodyPost_ret (v := .tuple #[.agg #[.int .i64 0, .int .i64 0], .int .i64 2]) (by simp [results, Try.results26, go_sem, hc]) rfl ⟨rfl, (((((Below.refl _ _).alloc (Nat.le_refl _) _).alloc (by simp) _).trans (hb1.mono (by simp; omega))).setCell (by simp) _).setCell (by simp) _⟩

theorem tdiv_wrap {a : Int} (g : Int) (h1 : -10000000000000 ≤ a) (h2 : a ≤ 10000000000000) : wrap64 (a.tdiv g) = a.tdiv g := by
  have h : (a.tdiv g).natAbs ≤ a.natAbs := by rw [Int.natAbs_tdiv]; exact Nat.div_le_self _ _
  unfold wrap64; omega

/-- a/b in lowest terms. -/
def low (a b : Int) : Int × Int :=
  if b = 0 then (1, 0) else if b < 0 then ((-a).tdiv (Int.gcd a b), (-b).tdiv (Int.gcd a b)) else (a.tdiv (Int.gcd a b), b.tdiv (Int.gcd a b))

set_option maxRecDepth 100000 in
set_option maxHeartbeats 1000000 in
theorem lowest_c (a b : Int) (w : World) (ha : -10000000000000 ≤ a ∧ a ≤ 10000000000000) (hb : -10000000000000 ≤ b ∧ b ≤ 10000000000000) :
    Calls Try.prog 34 #[.int .i64 a, .int .i64 b] w fun e w' => e = .returned (.agg #[.int .i64 (low a b).1, .int .i64 (low a b).2]) ∧ Below w.heap.size w w' := by
  obtain ⟨ha1, ha2⟩ := ha
  obtain ⟨hb1, hb2⟩ := hb
  by_cases h0 : b = 0
  · subst h0
    have HL : Hid (low a 0 = (1, 0)) := by unfold Hid low; rw [if_pos rfl]
    go_enter Try.func34, Try.ntmps34
    go_wp2
    rw [HL.out]
    exact bodyPost_ret (v := .agg #[.int .i64 1, .int .i64 0]) (by simp [results, Try.results34, go_sem]) rfl ⟨rfl, (Below.refl _ _).alloc (Nat.le_refl _) _⟩
  · have h0' : (b == 0) = false := by simpa using h0
    have hg := Int.gcd_pos_of_ne_zero_right a h0
    by_cases h1 : b < 0
    · have HL : Hid (low a b = ((-a).tdiv (Int.gcd a b), (-b).tdiv (Int.gcd a b))) := by unfold Hid low; rw [if_neg h0, if_pos h1]
      have HG : Hid (Int.gcd (-a) (-b) = Int.gcd a b) := by unfold Hid; rw [Int.neg_gcd, Int.gcd_neg]
      generalize Int.gcd a b = g at *
      go_enter Try.func34, Try.ntmps34
      go_wp2_with (go_at_call 30; refine (common_c _ _ _ (by omega) (by omega) (by omega) (by omega)).mono ?_; rw [HG.out]; rintro e w' ⟨rfl, rfl⟩)
      have hgi : (0 : Int) < (g : Int) := by omega
      have HQ := Lib.hid (tdiv_wrap (a := -a) (g : Int) (by omega) (by omega))
      have HR := Lib.hid (tdiv_wrap (a := -b) (g : Int) (by omega) (by omega))
      rw [Int.neg_tdiv] at HQ HR
      go_region
      simp only [HQ.out, HR.out]
      go_wp2
      rw [HL.out, Int.neg_tdiv, Int.neg_tdiv]
      exact bodyPost_ret (v := .agg #[.int .i64 (-a.tdiv g), .int .i64 (-b.tdiv g)]) (by simp [results, Try.results34, go_sem]) rfl ⟨rfl, ((Below.refl _ _).alloc (Nat.le_refl _) _).drew⟩
    · have HL : Hid (low a b = (a.tdiv (Int.gcd a b), b.tdiv (Int.gcd a b))) := by unfold Hid low; rw [if_neg h0, if_neg h1]
      go_enter Try.func34, Try.ntmps34
      have hgi : (0 : Int) < ((Int.gcd a b : Nat) : Int) := by omega
      have HQ := Lib.hid (tdiv_wrap (a := a) ((Int.gcd a b : Nat) : Int) (by omega) (by omega))
      have HR := Lib.hid (tdiv_wrap (a := b) ((Int.gcd a b : Nat) : Int) (by omega) (by omega))
      go_wp2_with (go_at_call 30; refine (common_c a b _ (by omega) (by omega) (by omega) (by omega)).mono ?_; rintro e w' ⟨rfl, rfl⟩)
      go_region
      go_wp2
      rw [HL.out]
      have hb0 : 0 ≤ b := by omega
      show bodyPost _ _ (fun e w' => e = .returned (.agg #[.int .i64 (a.tdiv (Int.gcd a b)), .int .i64 (b.tdiv (Int.gcd a b))]) ∧ _) _ _ _
      rw [Int.tdiv_eq_ediv_of_nonneg hb0]
      exact bodyPost_ret (v := .agg #[.int .i64 (a.tdiv (Int.gcd a b)), .int .i64 (b / (Int.gcd a b))]) (by simp [results, Try.results34, go_sem]) rfl ⟨rfl, ((Below.refl _ _).alloc (Nat.le_refl _) _).drew⟩

/-! ### FromTwists and Twisted -/
/-- A fraction in lowest terms. -/
def Norm (p : Int × Int) : Prop := 0 ≤ p.2 ∧ (p.2 = 0 → p.1 = 1) ∧ Int.gcd p.1 p.2 = 1
theorem low_norm {p : Int × Int} (h : Norm p) : low p.1 p.2 = p := by
  obtain ⟨n, d⟩ := p
  obtain ⟨h1, h2, h3⟩ := h
  simp only at h1 h2 h3
  unfold low
  by_cases h0 : d = 0
  · subst h0; rw [if_pos rfl, h2 rfl]
  · rw [if_neg h0, if_neg (by omega), h3]; simp
theorem low_inv {p : Int × Int} (h : Norm p) : low p.2 p.1 = inv p := by
  obtain ⟨n, d⟩ := p
  obtain ⟨h1, h2, h3⟩ := h
  simp only at h1 h2 h3
  unfold low inv
  rw [Int.gcd_comm, h3]
  by_cases h0 : n = 0
  · subst h0; rfl
  · by_cases h4 : n < 0
    · simp [h0, h4]
    · simp [h0, h4]
theorem inv_norm {p : Int × Int} (h : Norm p) : Norm (inv p) := by
  obtain ⟨n, d⟩ := p
  obtain ⟨h1, h2, h3⟩ := h
  simp only at h1 h2 h3
  unfold inv
  by_cases h4 : n < 0
  · rw [if_pos h4]
    exact ⟨by show 0 ≤ -n; omega, fun e => by simp at e; omega, by show Int.gcd (-d) (-n) = 1; rw [Int.neg_gcd, Int.gcd_neg, Int.gcd_comm]; exact h3⟩
  · by_cases h0 : n = 0
    · rw [if_neg h4, if_pos h0]; exact ⟨by decide, fun _ => rfl, by decide⟩
    · rw [if_neg h4, if_neg h0]
      exact ⟨by show 0 ≤ n; omega, fun e => absurd e h0, by show Int.gcd d n = 1; rw [Int.gcd_comm]; exact h3⟩
theorem plus_norm {p : Int × Int} (h : Norm p) (k : Int) : Norm (plusF p k) := by
  obtain ⟨n, d⟩ := p
  obtain ⟨h1, h2, h3⟩ := h
  simp only at h1 h2 h3
  refine ⟨h1, fun e => ?_, ?_⟩
  · simp only [plusF] at e ⊢; rw [e]; simpa using h2 e
  · simp only [plusF]
    rw [Int.gcd_add_mul_right_left]
    exact h3
/-- After the twists. -/
def twist (l : List Int) : Int × Int := l.foldl (fun p a => plusF (inv p) a) (1, 0)
theorem twist_snoc (l : List Int) (a : Int) : twist (l ++ [a]) = plusF (inv (twist l)) a := by simp [twist]
theorem fold_norm : ∀ (l : List Int) (p : Int × Int), Norm p → Norm (l.foldl (fun p a => plusF (inv p) a) p)
  | [], _, h => h
  | a :: l, p, h => fold_norm l _ (plus_norm (inv_norm h) a)
theorem twist_norm (l : List Int) : Norm (twist l) := fold_norm l _ ⟨by decide, fun _ => rfl, by decide⟩
def Bd (M : Nat) (p : Int × Int) : Prop := p.1.natAbs ≤ M ∧ p.2.natAbs ≤ M
theorem inv_bd {M : Nat} {p : Int × Int} (hM : 1 ≤ M) (h : Bd M p) : Bd M (inv p) := by
  obtain ⟨n, d⟩ := p
  obtain ⟨h1, h2⟩ := h
  simp only at h1 h2
  unfold inv Bd
  by_cases h4 : n < 0
  · rw [if_pos h4]; exact ⟨by show (-d).natAbs ≤ M; omega, by show (-n).natAbs ≤ M; omega⟩
  · by_cases h0 : n = 0
    · rw [if_neg h4, if_pos h0]; exact ⟨hM, Nat.zero_le _⟩
    · rw [if_neg h4, if_neg h0]; exact ⟨h2, h1⟩
theorem plus_bd {M : Nat} {p : Int × Int} {a : Int} (h : Bd M p) (ha : a.natAbs ≤ 9) : Bd (M * 10) (plusF p a) := by
  obtain ⟨n, d⟩ := p
  obtain ⟨h1, h2⟩ := h
  simp only at h1 h2
  have h3 : (a * d).natAbs ≤ 9 * M := by rw [Int.natAbs_mul]; exact Nat.mul_le_mul ha h2
  exact ⟨by show (n + a * d).natAbs ≤ M * 10; omega, by show d.natAbs ≤ M * 10; omega⟩
theorem fold_bd : ∀ (l : List Int) (p : Int × Int) (M : Nat), 1 ≤ M → (∀ a ∈ l, a.natAbs ≤ 9) → Bd M p → Bd (M * 10 ^ l.length) (l.foldl (fun p a => plusF (inv p) a) p)
  | [], p, M, _, _, h => by simpa using h
  | a :: l, p, M, hM, ha, h => by
    have := fold_bd l (plusF (inv p) a) (M * 10) (by omega) (fun b hb => ha b (by simp [hb])) (plus_bd (inv_bd hM h) (ha a (by simp)))
    rw [List.length_cons, Nat.pow_succ, Nat.mul_comm (10 ^ l.length), ← Nat.mul_assoc]
    exact this
theorem twist_bd {l : List Int} (h12 : l.length ≤ 12) (h9 : ∀ a ∈ l, a.natAbs ≤ 9) : Bd 1000000000000 (twist l) := by
  have := fold_bd l (1, 0) 1 (Nat.le_refl _) h9 ⟨by decide, by decide⟩
  have hp : 10 ^ l.length ≤ 10 ^ 12 := Nat.pow_le_pow_right (by omega) h12
  exact ⟨Nat.le_trans this.1 (by omega), Nat.le_trans this.2 (by omega)⟩
theorem twist_take {l : List Int} {k : Nat} (hk : k < l.length) : twist (l.take (k + 1)) = plusF (inv (twist (l.take k))) l[k] := by
  rw [List.take_succ_eq_append_getElem hk, twist_snoc]
end Go.Proofs.Ythkbcgggbgkfmaa
