/- Facts and contracts that the claim uses. No condition of its own. -/
import Derived.Test.YtkmkcbkfakoomaaGRingCoursesBH
import Derived.Deep.QuietTactic
import Derived.BigQuiet
set_option linter.unusedVariables false
set_option linter.unusedSimpArgs false
namespace Go.Proofs.Ytkmkcbkfakoomaa
open Go.RowKit
theorem permFault_range {xs : List Int} (h : permFault xs = 0) : xs.length ≤ 9 ∧ InRange xs ∧ xs.Nodup := by
  unfold permFault at h
  split at h
  · cases h
  · rename_i h9
    rw [firstNZ_zero_iff] at h
    refine ⟨by omega, fun i hi => ?_, ?_⟩
    · have := h i hi
      unfold pfAt at this
      split at this
      · cases this
      · omega
    · refine List.pairwise_iff_getElem.2 fun i j hi hj hij e => ?_
      have := h j hj
      unfold pfAt at this
      split at this
      · cases this
      · split at this
        · cases this
        · rename_i hm
          apply hm
          rw [getD_lt 0 hj, ← e]
          exact List.mem_iff_getElem.2 ⟨i, by simp; omega, by simp⟩
set_option maxHeartbeats 400000 in
theorem order_fault (A : Option Addr) (cap : Nat) (xs : List Int) (w : World) (h : IsInts w A cap xs) (hf : permFault xs ≠ 0) :
    Calls Try.prog 34 #[.slice A xs.length cap] w fun e w' => e = .returned (.tuple #[.int .i64 0, .int .i64 (permFault xs)]) ∧ w = w' := by
  have hf2 : (permFault xs != 0) = true := by simpa using hf
  go_enter Try.func34, Try.ntmps34
  go_wp2_with (go_at_call 45; refine (check_c _ _ _ _ h).mono ?_; rintro e w' ⟨rfl, rfl⟩)
  go_ret2
  exact ⟨rfl, rfl⟩
set_option maxRecDepth 100000 in
set_option maxHeartbeats 1000000 in
theorem order_ok (A : Option Addr) (cap : Nat) (xs : List Int) (w : World) (h : IsInts w A cap xs) (hf : permFault xs = 0) :
    Calls Try.prog 34 #[.slice A xs.length cap] w fun e w' => e = .returned (.tuple #[.int .i64 (orderOf xs), .int .i64 0]) ∧ Below w.heap.size w w' := by
  obtain ⟨h9, hr, _⟩ := permFault_range hf
  have h1 := h.len
  have h2 := h.cap_le
  have HC := Lib.hid hf
  clear hf
  have hl9 : ∀ c ∈ cyclesOf xs, 1 ≤ c.length ∧ c.length ≤ 9 := fun c hc => by have := cyclesOf_lens hr c hc; omega
  have hcl : (cyclesOf xs).length ≤ 9 := Nat.le_trans (cycAt_len xs _) h9
  have HO : Hid (orderOf xs = ordAt (cyclesOf xs) (cyclesOf xs).length) := rfl
  generalize hcy : cyclesOf xs = cs at *
  have HCY := Lib.hid hcy
  clear hcy
  have HL := Lib.hid hl9
  clear hl9
  go_enter Try.func34, Try.ntmps34
  go_wp2_with (first
    | (go_at_call 45; refine (check_c _ _ _ _ h).mono ?_; rw [HC.out]; rintro e w' ⟨rfl, rfl⟩)
    | (go_at_call 46; refine (cycles_c _ _ _ _ h hr h9).mono ?_; rw [HCY.out]; rintro e w1 ⟨v, rfl, hv, hb1⟩; obtain ⟨A1, c1, rfl, hI⟩ := hv.reads; clear hv))
  go_loopw [5, 7, 8, 9, 18] (fun out _ _ _ i wr => ∃ k q : Nat, k ≤ cs.length ∧ i = .int .i64 k ∧ out = .int .i64 (ordAt cs k) ∧ wr = w1.drewN q) (fun _ _ _ _ i _ => cs.length - (intOf i).toNat)
  case atStart => exact ⟨0, 0, Nat.zero_le _, rfl, rfl, rfl⟩
  case round =>
    obtain ⟨k, q, hk, rfl, rfl, rfl⟩ := hrel
    by_cases hlt : k < cs.length
    · obtain ⟨b, o, rfl, hbl, hc⟩ := hI.row (by intro e; simp [e] at hlt)
      obtain ⟨Ai, ci, hck, hIk⟩ := hc k hlt
      rw [getD_lt [] hlt] at hck
      clear hc
      have hm := HL.out _ (List.getElem_mem hlt)
      obtain ⟨hm1, hm2⟩ := hm
      obtain ⟨ho1, ho2⟩ := ordAt_bd HL.out k hk
      have HS : Hid (ordAt cs (k + 1) = ordAt cs k / Nat.gcd (ordAt cs k) cs[k].length * cs[k].length) := by
        show ordAt cs (k + 1) = _
        simp only [ordAt]; rw [getD_lt [] hlt]
      have hb' := ordAt_bd HL.out (k + 1) (by omega)
      generalize ordAt cs k = o1 at *
      generalize hlk : cs[k].length = l1 at *
      have HK := Lib.hid hlk
      clear hlk
      go_wp2
      have HG : ∀ z : Nat, Nat.gcd o1 l1 = z → Hid (z = Nat.gcd o1 l1) := fun z hz => hz.symm
      have hgl : Nat.gcd o1 l1 ∣ o1 := Nat.gcd_dvd_left _ _
      go_loopw [8, 9] (fun x y wi => ∃ X Y q' : Nat, x = .int .i64 X ∧ y = .int .i64 Y ∧ Hid (Nat.gcd X Y = Nat.gcd o1 l1) ∧ 1 ≤ X ∧ X ≤ 2520 ∧ Y ≤ 2520 ∧ wi = w1.drewN q') (fun _ y _ => (intOf y).toNat)
      case atStart => exact ⟨o1, l1, q, rfl, rfl, rfl, ho1, ho2, by omega, rfl⟩
      case round =>
        obtain ⟨X, Y, q', rfl, rfl, hXY, hX1, hX2, hY2, rfl⟩ := hrel
        by_cases hy : 0 < Y
        · have hm1 : ((X : Int) % (Y : Int)) = ((X % Y : Nat) : Int) := by omega
          have hm2 : X % Y < Y := Nat.mod_lt _ hy
          go_wp2
          go_quiet (fail)
          go_wp2
          go_roundw
          case rel => exact ⟨Y, X % Y, _, rfl, rfl, by unfold Hid; rw [← hXY.out, Nat.gcd_comm X Y, Nat.gcd_rec Y X, Nat.gcd_comm], hy, hY2, by omega, World.drewN_drewN _ _ _⟩
          case measure => simp [intOf]; omega
        · obtain rfl : Y = 0 := by omega
          have hX : Hid (X = Nat.gcd o1 l1) := by have := hXY.out; rwa [Nat.gcd_zero_right] at this
          have hXo : X ≤ o1 := by have := Nat.le_of_dvd ho1 hgl; rw [← hX.out] at this; exact this
          have hp : o1 / X * l1 ≤ 2520 := by have := hb'.2; rw [HS.out, ← hX.out] at this; exact this
          have hp2 : ((o1 : Int) / (X : Int)) * (l1 : Int) = ((o1 / X * l1 : Nat) : Int) := by rw [Int.natCast_mul, Int.natCast_ediv]
          have hd0 : 0 ≤ (o1 : Int) / (X : Int) := Int.ediv_nonneg (by omega) (by omega)
          have hd1 : (o1 : Int) / (X : Int) ≤ 2520 := by have := Int.ediv_le_self (X : Int) (show 0 ≤ (o1 : Int) by omega); omega
          have hp0 : 0 ≤ ((o1 : Int) / (X : Int)) * (l1 : Int) := Int.mul_nonneg hd0 (by omega)
          have hp1 : ((o1 : Int) / (X : Int)) * (l1 : Int) ≤ 2520 := by rw [hp2]; omega
          have HP := Lib.hid hp2
          clear hp2 hp
          go_wp2
          go_roundw
          case rel => exact ⟨k + 1, q', by omega, by go_num, by rw [HS.out, HP.out, hX.out], rfl⟩
          case measure => simp [intOf]; omega
    · go_wp2
      go_ret2
      obtain rfl : k = cs.length := by omega
      exact ⟨by rw [HO.out]; rfl, below_drewN hb1 _⟩
end Go.Proofs.Ytkmkcbkfakoomaa
