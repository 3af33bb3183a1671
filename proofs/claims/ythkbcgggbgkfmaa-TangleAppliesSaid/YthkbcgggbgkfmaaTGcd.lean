/- Contracts of functions of this seat, and plain facts for them: used by the claims. No condition of its own. -/
import Derived.Test.YthkbcgggbgkfmaaStd
import Derived.Deep.QuietTactic
import Derived.BigQuiet
set_option linter.unusedVariables false
namespace Go.Proofs.Ythkbcgggbgkfmaa
open Go.RowKit

theorem gcd_tmod (a b : Int) : Int.gcd b (a.tmod b) = Int.gcd a b := by
  have h1 : Int.gcd b (a.tmod b) = Nat.gcd b.natAbs (a.natAbs % b.natAbs) := by
    unfold Int.gcd
    rw [Int.natAbs_tmod]
  rw [h1]
  exact (Nat.gcd_comm _ _).trans ((Nat.gcd_rec b.natAbs a.natAbs).symm.trans (Nat.gcd_comm _ _))
theorem tmod_bd (a b : Int) (h : b ≠ 0) : (a.tmod b).natAbs < b.natAbs := by
  rw [Int.natAbs_tmod]; exact Nat.mod_lt _ (by omega)

set_option maxRecDepth 100000 in
set_option maxHeartbeats 1000000 in
theorem gcd_c (a b : Int) (w : World) (ha : -1000000 ≤ a ∧ a ≤ 1000000) (hb : -1000000 ≤ b ∧ b ≤ 1000000) :
    Calls Try.prog 32 #[.int .i64 a, .int .i64 b] w fun e w' => e = .returned (.int .i64 (Int.gcd a b)) ∧ ∃ q, w' = w.drewN q := by
  go_enter Try.func32, Try.ntmps32
  go_wp2
  go_loopw [0, 1] (fun x y wr => ∃ (a' b' : Int) (q : Nat), x = .int .i64 a' ∧ y = .int .i64 b' ∧ Hid (Int.gcd a' b' = Int.gcd a b) ∧ -1000000 ≤ a' ∧ a' ≤ 1000000 ∧ -1000000 ≤ b' ∧ b' ≤ 1000000 ∧ wr = w.drewN q) (fun _ y _ => (intOf y).natAbs)
  case atStart => exact ⟨a, b, 0, rfl, rfl, rfl, ha.1, ha.2, hb.1, hb.2, rfl⟩
  case round =>
    obtain ⟨a', b', q, rfl, rfl, hg, h1, h2, h3, h4, rfl⟩ := hrel
    by_cases h0 : b' = 0
    · subst h0
      have hg0 : Hid ((a'.natAbs : Int) = (Int.gcd a b : Nat)) := by
        have := hg.out; rw [Int.gcd_zero_right] at this; unfold Hid; rw [this]
      go_wp2
      go_ret
      exact ⟨ret_int (by rw [← hg0.out]; omega), _, rfl⟩
    · have hne : (b' != 0) = true := by simpa using h0
      go_wp2
      go_quiet (fail)
      go_wp2
      have hm := tmod_bd a' b' h0
      go_roundw
      case rel => exact ⟨b', a'.tmod b', _, rfl, rfl, by unfold Hid; rw [gcd_tmod]; exact hg.out, h3, h4, by omega, by omega, World.drewN_drewN _ _ _⟩
      case measure => simp only [intOf]; exact hm

set_option maxRecDepth 100000 in
set_option maxHeartbeats 1000000 in
theorem common_n : ∀ (f : Nat) (a b : Int) (w : World), b.natAbs ≤ f → -100000000000000 ≤ a → a ≤ 100000000000000 → -100000000000000 ≤ b → b ≤ 100000000000000 →
    Calls Try.prog 30 #[.int .i64 a, .int .i64 b] w fun e w' => e = .returned (.int .i64 (Int.gcd a b)) ∧ w = w' := by
  intro f
  induction f with
  | zero =>
    intro a b w hf ha1 ha2 hb1 hb2
    obtain rfl : b = 0 := by omega
    have hg0 : Hid ((a.natAbs : Int) = (Int.gcd a 0 : Nat)) := by unfold Hid; rw [Int.gcd_zero_right]
    go_enter Try.func30, Try.ntmps30
    go_wp2
    go_ret
    exact ⟨ret_int (by rw [← hg0.out]; omega), rfl⟩
  | succ f ih =>
    intro a b w hf ha1 ha2 hb1 hb2
    have IH := Lib.hid ih
    clear ih
    by_cases h0 : b = 0
    · subst h0
      have hg0 : Hid ((a.natAbs : Int) = (Int.gcd a 0 : Nat)) := by unfold Hid; rw [Int.gcd_zero_right]
      go_enter Try.func30, Try.ntmps30
      go_wp2
      go_ret
      exact ⟨ret_int (by rw [← hg0.out]; omega), rfl⟩
    · have hm := tmod_bd a b h0
      have HG := Lib.hid (gcd_tmod a b)
      have hne : (b == 0) = false := by simpa using h0
      go_enter Try.func30, Try.ntmps30
      go_wp2_with (go_at_call 30; refine (IH.out _ _ _ (by omega) (by omega) (by omega) (by omega) (by omega)).mono ?_; rw [HG.out]; rintro e w' ⟨rfl, rfl⟩)
      go_ret
      exact ⟨rfl, rfl⟩
theorem common_c (a b : Int) (w : World) (ha1 : -100000000000000 ≤ a) (ha2 : a ≤ 100000000000000) (hb1 : -100000000000000 ≤ b) (hb2 : b ≤ 100000000000000) :
    Calls Try.prog 30 #[.int .i64 a, .int .i64 b] w fun e w' => e = .returned (.int .i64 (Int.gcd a b)) ∧ w = w' := common_n b.natAbs a b w (Nat.le_refl _) ha1 ha2 hb1 hb2
end Go.Proofs.Ythkbcgggbgkfmaa
