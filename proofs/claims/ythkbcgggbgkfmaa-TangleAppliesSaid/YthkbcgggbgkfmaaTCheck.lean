/- Contracts of functions of this seat, and plain facts for them: used by the claims. No condition of its own. -/
import Derived.Test.YthkbcgggbgkfmaaTGcd
set_option linter.unusedVariables false
namespace Go.Proofs.Ythkbcgggbgkfmaa
open Go.RowKit

def bigI (n : Int) : Prop := n < -1000000 ∨ 1000000 < n
instance (n : Int) : Decidable (bigI n) := by unfold bigI; infer_instance
/-- What is wrong with the fraction n/d: 2 too large, 3 malformed, 0 nothing. -/
def faultF (n d : Int) : Int := if bigI n ∨ bigI d then 2 else if d < 0 ∨ (d = 0 ∧ n ≠ 1) ∨ Int.gcd n d ≠ 1 then 3 else 0

theorem fault_big {n d : Int} (h : bigI n ∨ bigI d) : faultF n d = 2 := by unfold faultF; rw [if_pos h]
theorem fault_bad {n d : Int} (h : ¬ (bigI n ∨ bigI d)) (h2 : d < 0 ∨ (d = 0 ∧ n ≠ 1) ∨ Int.gcd n d ≠ 1) : faultF n d = 3 := by unfold faultF; rw [if_neg h, if_pos h2]
theorem fault_ok {n d : Int} (h : ¬ (bigI n ∨ bigI d)) (h2 : ¬ (d < 0 ∨ (d = 0 ∧ n ≠ 1) ∨ Int.gcd n d ≠ 1)) : faultF n d = 0 := by unfold faultF; rw [if_neg h, if_neg h2]
theorem gcd_pos_of {n d : Int} (h : ¬ (d < 0 ∨ (d = 0 ∧ n ≠ 1))) : 1 ≤ Int.gcd n d := by
  by_cases e : d = 0
  · have : n = 1 := by
      apply Classical.byContradiction; intro c; exact h (.inr ⟨e, c⟩)
    subst e this; decide
  · exact Int.gcd_pos_of_ne_zero_right _ e

set_option maxHeartbeats 400000 in
theorem large_c (n : Int) (w : World) (b : Bool) (hb : b = decide (bigI n)) : Calls Try.prog 31 #[.int .i64 n] w fun e w' => e = .returned (.bool b) ∧ w = w' := by
  by_cases h : bigI n
  · rw [decide_eq_true h] at hb
    subst hb
    unfold bigI at h
    by_cases h1 : n < -1000000
    all_goals
      go_enter Try.func31, Try.ntmps31
      go_wp2
      go_ret
      exact ⟨ret_bool (by first | (simp; done) | (simp; omega)), rfl⟩
  · rw [decide_eq_false h] at hb
    subst hb
    unfold bigI at h
    have h1 : ¬ n < -1000000 := by omega
    go_enter Try.func31, Try.ntmps31
    go_wp2
    go_ret
    exact ⟨ret_bool (by first | (simp; done) | (simp; omega)), rfl⟩

set_option maxRecDepth 100000 in
set_option maxHeartbeats 1000000 in
theorem tcheck_c (n d : Int) (w : World) : Calls Try.prog 10 #[.agg #[.int .i64 n, .int .i64 d]] w fun e w' => e = .returned (.int .i64 (faultF n d)) ∧ Below w.heap.size w w' := by
  by_cases hn : bigI n
  · have HF := Lib.hid (fault_big (n := n) (d := d) (.inl hn))
    go_enter Try.func10, Try.ntmps10
    go_wp2_with (go_at_call 31; refine (large_c _ _ true (by simpa using hn)).mono ?_; rintro e w' ⟨rfl, rfl⟩)
    go_ret
    exact ⟨ret_int HF.out.symm, (Below.refl _ _).alloc (Nat.le_refl _) _⟩
  · by_cases hd : bigI d
    · have HF := Lib.hid (fault_big (n := n) (d := d) (.inr hd))
      go_enter Try.func10, Try.ntmps10
      go_wp2_with fail
      refine (large_c n _ false (by simpa using hn)).mono ?_
      rintro e w' ⟨rfl, rfl⟩
      go_wp2_with fail
      refine (large_c d _ true (by simpa using hd)).mono ?_
      rintro e w' ⟨rfl, rfl⟩
      go_wp2
      go_ret
      exact ⟨ret_int HF.out.symm, (Below.refl _ _).alloc (Nat.le_refl _) _⟩
    · have hs : ¬ (bigI n ∨ bigI d) := fun h => h.elim hn hd
      have hn' := hn
      have hd' := hd
      unfold bigI at hn' hd'
      by_cases h1 : d < 0
      · have HF := Lib.hid (fault_bad hs (.inl h1))
        go_enter Try.func10, Try.ntmps10
        go_wp2_with fail
        refine (large_c n _ false (by simpa using hn)).mono ?_
        rintro e w' ⟨rfl, rfl⟩
        go_wp2_with fail
        refine (large_c d _ false (by simpa using hd)).mono ?_
        rintro e w' ⟨rfl, rfl⟩
        go_wp2
        go_ret
        exact ⟨ret_int HF.out.symm, (Below.refl _ _).alloc (Nat.le_refl _) _⟩
      · by_cases h2 : d = 0
        · subst h2
          by_cases h3 : n = 1
          · subst h3
            have HF := Lib.hid (fault_ok hs (by decide))
            have HG : Hid (((Int.gcd 1 0 : Nat) : Int) = 1) := by unfold Hid; decide
            go_enter Try.func10, Try.ntmps10
            go_wp2_with fail
            refine (large_c 1 _ false (by simpa using hn)).mono ?_
            rintro e w' ⟨rfl, rfl⟩
            go_wp2_with fail
            refine (large_c 0 _ false (by simpa using hd)).mono ?_
            rintro e w' ⟨rfl, rfl⟩
            go_wp2_with (go_at_call 32; refine (gcd_c _ _ _ (by omega) (by omega)).mono ?_; rw [HG.out]; rintro e w' ⟨rfl, q, rfl⟩)
            go_ret
            exact ⟨ret_int HF.out.symm, below_drewN ((Below.refl _ _).alloc (Nat.le_refl _) _) _⟩
          · have HF := Lib.hid (fault_bad hs (.inr (.inl ⟨rfl, h3⟩)))
            have h3' : (n != 1) = true := by simpa using h3
            go_enter Try.func10, Try.ntmps10
            go_wp2_with fail
            refine (large_c n _ false (by simpa using hn)).mono ?_
            rintro e w' ⟨rfl, rfl⟩
            go_wp2_with fail
            refine (large_c 0 _ false (by simpa using hd)).mono ?_
            rintro e w' ⟨rfl, rfl⟩
            go_wp2
            go_ret
            exact ⟨ret_int HF.out.symm, (Below.refl _ _).alloc (Nat.le_refl _) _⟩
        · have h2' : (d == 0) = false := by simpa using h2
          have hg := gcd_pos_of (n := n) (d := d) (by rintro (h | h); exact h1 h; exact h2 h.1)
          by_cases h4 : Int.gcd n d = 1
          · have HF := Lib.hid (fault_ok hs (by rintro (h | h | h); exact h1 h; exact h2 h.1; exact h h4))
            have H4 : Hid (((Int.gcd n d : Nat) : Int) = 1) := by unfold Hid; rw [h4]; rfl
            clear h4
            go_enter Try.func10, Try.ntmps10
            go_wp2_with fail
            refine (large_c n _ false (by simpa using hn)).mono ?_
            rintro e w' ⟨rfl, rfl⟩
            go_wp2_with fail
            refine (large_c d _ false (by simpa using hd)).mono ?_
            rintro e w' ⟨rfl, rfl⟩
            go_wp2_with (go_at_call 32; refine (gcd_c _ _ _ (by omega) (by omega)).mono ?_; rw [H4.out]; rintro e w' ⟨rfl, q, rfl⟩)
            go_ret
            exact ⟨ret_int HF.out.symm, below_drewN ((Below.refl _ _).alloc (Nat.le_refl _) _) _⟩
          · have HF := Lib.hid (fault_bad hs (.inr (.inr h4)))
            have h5 : (1 : Int) < ((Int.gcd n d : Nat) : Int) := by omega
            have h6 : 1 < Int.gcd n d := by omega
            clear h4 hg
            go_enter Try.func10, Try.ntmps10
            go_wp2_with fail
            refine (large_c n _ false (by simpa using hn)).mono ?_
            rintro e w' ⟨rfl, rfl⟩
            go_wp2_with fail
            refine (large_c d _ false (by simpa using hd)).mono ?_
            rintro e w' ⟨rfl, rfl⟩
            go_wp2_with (go_at_call 32; refine (gcd_c _ _ _ (by omega) (by omega)).mono ?_; rintro e w' ⟨rfl, q, rfl⟩)
            go_ret
            exact ⟨ret_int HF.out.symm, below_drewN ((Below.refl _ _).alloc (Nat.le_refl _) _) _⟩

set_option maxRecDepth 100000 in
set_option maxHeartbeats 1000000 in
theorem ffault_c (n d : Int) (w : World) : Calls Try.prog 8 #[.agg #[.int .i64 n, .int .i64 d]] w fun e w' => e = .returned (.int .i64 (faultF n d)) ∧ Below w.heap.size w w' := by
  by_cases hs : bigI n ∨ bigI d
  · have HF := Lib.hid (fault_big hs)
    unfold bigI at hs
    by_cases a1 : 1000000 < n
    · go_enter Try.func8, Try.ntmps8
      go_wp2
      go_ret
      exact ⟨ret_int HF.out.symm, (Below.refl _ _).alloc (Nat.le_refl _) _⟩
    · by_cases a2 : n < -1000000
      · go_enter Try.func8, Try.ntmps8
        go_wp2
        go_ret
        exact ⟨ret_int HF.out.symm, (Below.refl _ _).alloc (Nat.le_refl _) _⟩
      · by_cases a3 : 1000000 < d
        · go_enter Try.func8, Try.ntmps8
          go_wp2
          go_ret
          exact ⟨ret_int HF.out.symm, (Below.refl _ _).alloc (Nat.le_refl _) _⟩
        · have a4 : d < -1000000 := by omega
          go_enter Try.func8, Try.ntmps8
          go_wp2
          go_ret
          exact ⟨ret_int HF.out.symm, (Below.refl _ _).alloc (Nat.le_refl _) _⟩
  · have hs' := hs
    unfold bigI at hs'
    have b1 : ¬ 1000000 < n := by omega
    have b2 : ¬ n < -1000000 := by omega
    have b3 : ¬ 1000000 < d := by omega
    have b4 : ¬ d < -1000000 := by omega
    have HS := Lib.hid hs
    clear hs hs'
    by_cases h1 : d < 0
    · have HF := Lib.hid (fault_bad HS.out (.inl h1))
      go_enter Try.func8, Try.ntmps8
      go_wp2
      go_ret
      exact ⟨ret_int HF.out.symm, (Below.refl _ _).alloc (Nat.le_refl _) _⟩
    · by_cases h2 : d = 0
      · subst h2
        by_cases h3 : n = 1
        · subst h3
          have HF := Lib.hid (fault_ok HS.out (by decide))
          have HG : Hid (((Int.gcd 1 0 : Nat) : Int) = 1) := by unfold Hid; decide
          go_enter Try.func8, Try.ntmps8
          go_wp2_with (go_at_call 30; refine (common_c _ _ _ (by omega) (by omega) (by omega) (by omega)).mono ?_; rw [HG.out]; rintro e w' ⟨rfl, rfl⟩)
          go_ret
          exact ⟨ret_int HF.out.symm, (Below.refl _ _).alloc (Nat.le_refl _) _⟩
        · have HF := Lib.hid (fault_bad HS.out (.inr (.inl ⟨rfl, h3⟩)))
          have h3' : (n != 1) = true := by simpa using h3
          go_enter Try.func8, Try.ntmps8
          go_wp2
          go_ret
          exact ⟨ret_int HF.out.symm, (Below.refl _ _).alloc (Nat.le_refl _) _⟩
      · have h2' : (d == 0) = false := by simpa using h2
        by_cases h4 : Int.gcd n d = 1
        · have HF := Lib.hid (fault_ok HS.out (by rintro (h | h | h); exact h1 h; exact h2 h.1; exact h h4))
          have H4 : Hid (((Int.gcd n d : Nat) : Int) = 1) := by unfold Hid; rw [h4]; rfl
          clear h4
          go_enter Try.func8, Try.ntmps8
          go_wp2_with (go_at_call 30; refine (common_c _ _ _ (by omega) (by omega) (by omega) (by omega)).mono ?_; rw [H4.out]; rintro e w' ⟨rfl, rfl⟩)
          go_ret
          exact ⟨ret_int HF.out.symm, (Below.refl _ _).alloc (Nat.le_refl _) _⟩
        · have HF := Lib.hid (fault_bad HS.out (.inr (.inr h4)))
          have h5 : ((((Int.gcd n d : Nat) : Int)) != 1) = true := by rw [bne_iff_ne]; omega
          clear h4
          go_enter Try.func8, Try.ntmps8
          go_wp2_with (go_at_call 30; refine (common_c _ _ _ (by omega) (by omega) (by omega) (by omega)).mono ?_; rintro e w' ⟨rfl, rfl⟩)
          go_ret
          exact ⟨ret_int HF.out.symm, (Below.refl _ _).alloc (Nat.le_refl _) _⟩
end Go.Proofs.Ythkbcgggbgkfmaa
