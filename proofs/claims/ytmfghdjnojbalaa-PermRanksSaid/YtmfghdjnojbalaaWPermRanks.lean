/- Contracts of functions of this seat, and plain facts for them: used by the claims. No condition of its own. -/
import Derived.Test.YtmfghdjnojbalaaPermuted
import Derived.Test.YtmfghdjnojbalaaFault
import Derived.Test.YtmfghdjnojbalaaNumber
import Derived.Test.YtmfghdjnojbalaaUnrank
set_option linter.unusedVariables false
namespace Go.Proofs.Ytmfghdjnojbalaa
open Go.RowKit

theorem permFault_of {xs : List Int} (hr : InRange xs) (hd : xs.Nodup) (h9 : xs.length ≤ 9) : permFault xs = 0 := by
  refine permFault_ok h9 fun j hj => ?_
  have h1 := hr j hj
  rw [getD_lt 0 hj] at h1
  refine pfAt_zero hj h1 fun hm => ?_
  obtain ⟨i, hi, e⟩ := List.mem_iff_getElem.1 hm
  have hi' : i < j := by simp at hi; omega
  rw [List.getElem_take] at e
  exact List.pairwise_iff_getElem.1 hd i j (by omega) hj hi' e
theorem of_perm_idRow {n : Nat} {xs : List Int} (h : xs.Perm (idRow n)) : InRange xs ∧ xs.Nodup := by
  refine ⟨fun i hi => ?_, h.nodup_iff.2 (sorted_nodup (idRow_sorted n))⟩
  have := mem_idRow.1 (h.mem_iff.1 (List.getElem_mem hi))
  have hl := h.length_eq
  rw [idRow_len] at hl
  rw [getD_lt 0 hi]; omega

def rankV (xs : List Int) : Int := if permFault xs = 0 then rank xs else 0
theorem rank_any (A : Option Addr) (cap : Nat) (xs : List Int) (w : World) (h : IsInts w A cap xs) :
    Calls Try.prog 13 #[.slice A xs.length cap] w fun e w' => e = .returned (.tuple #[.int .i64 (rankV xs), .int .i64 (permFault xs)]) ∧ w = w' := by
  unfold rankV
  by_cases hf : permFault xs = 0
  · rw [if_pos hf, hf]; exact rank_ok A cap xs w h hf (permFault_range hf).1
  · rw [if_neg hf]; exact rank_fault A cap xs w h hf

set_option maxRecDepth 100000 in
set_option maxHeartbeats 2000000 in
theorem permRanks_arg (A : Option Addr) (cap : Nat) (xs : List Int) (n r : Int) (w : World) (h : IsInts w A cap xs) (hn : n < 0 ∨ 9 < n) :
    Calls Try.prog 4 #[.slice A xs.length cap, .int .i64 n, .int .i64 r] w fun e w' => e = .returned (.bool true) ∧ Below w.heap.size w w' := by
  have HN := Lib.hid hn
  by_cases hf : permFault xs = 0
  · obtain ⟨h9, hr, hd⟩ := permFault_range hf
    have hv : (rankV xs != (number xs : Int)) = false := by rw [number_rank hr hd, rankV, if_pos hf]; simp
    have HF := Lib.hid hf
    clear hf
    rcases hn with hn | hn
    all_goals
      go_enter Try.func4, Try.ntmps4
      go_wp2_with (first
        | (go_at_call 13; refine (rank_any _ _ _ _ h).mono ?_; rw [HF.out]; rintro e w' ⟨rfl, rfl⟩)
        | (go_at_call 14; refine (unrank_arg _ _ _ HN.out).mono ?_; rintro e w1 ⟨rfl, rfl⟩; have hb1 := Below.refl w.heap.size w; have h1 := h)
        | (go_at_call 12; refine (fault_c _ _ _ _ h1).mono ?_; rw [HF.out]; rintro e w2 ⟨rfl, hb2⟩; have h2 := h1.below hb2 (Nat.le_refl _))
        | (go_at_call 15; refine (number_c _ _ _ _ h2 hr hd h9).mono ?_; rintro e w3 ⟨rfl, hb3⟩)
        | (go_at_call 10; refine (permuted_c _).mono ?_; rintro e w4 ⟨rfl, hb4⟩))
      go_ret
      exact ⟨rfl, hb1.trans ((hb2.mono hb1.size).trans ((hb3.mono (Nat.le_trans hb1.size hb2.size)).trans (hb4.mono (Nat.le_trans hb1.size (Nat.le_trans hb2.size hb3.size)))))⟩
  · have hv : (rankV xs != 0) = false := by rw [rankV, if_neg hf]; rfl
    have hf2 : (permFault xs == 0) = false := by simpa using hf
    clear hf
    rcases hn with hn | hn
    all_goals
      go_enter Try.func4, Try.ntmps4
      go_wp2_with (first
        | (go_at_call 13; refine (rank_any _ _ _ _ h).mono ?_; rintro e w' ⟨rfl, rfl⟩)
        | (go_at_call 14; refine (unrank_arg _ _ _ HN.out).mono ?_; rintro e w1 ⟨rfl, rfl⟩; have hb1 := Below.refl w.heap.size w; have h1 := h)
        | (go_at_call 12; refine (fault_c _ _ _ _ h1).mono ?_; rintro e w2 ⟨rfl, hb2⟩; have h2 := h1.below hb2 (Nat.le_refl _))
        | (go_at_call 10; refine (permuted_c _).mono ?_; rintro e w4 ⟨rfl, hb4⟩))
      go_ret
      exact ⟨rfl, hb1.trans ((hb2.mono hb1.size).trans (hb4.mono (Nat.le_trans hb1.size hb2.size)))⟩

set_option maxRecDepth 100000 in
set_option maxHeartbeats 2000000 in
theorem permRanks_miss (A : Option Addr) (cap : Nat) (xs : List Int) (n : Nat) (r : Int) (w : World) (h : IsInts w A cap xs) (hn : n ≤ 9) (hm : r < 0 ∨ (fac n : Int) ≤ r) :
    Calls Try.prog 4 #[.slice A xs.length cap, .int .i64 n, .int .i64 r] w fun e w' => e = .returned (.bool true) ∧ Below w.heap.size w w' := by
  have HN := Lib.hid hm
  clear hm
  by_cases hf : permFault xs = 0
  · obtain ⟨h9, hr, hd⟩ := permFault_range hf
    have hv : (rankV xs != (number xs : Int)) = false := by rw [number_rank hr hd, rankV, if_pos hf]; simp
    have HF := Lib.hid hf
    clear hf
    go_enter Try.func4, Try.ntmps4
    go_wp2_with (first
        | (go_at_call 13; refine (rank_any _ _ _ _ h).mono ?_; rw [HF.out]; rintro e w' ⟨rfl, rfl⟩)
        | (go_at_call 14; refine (unrank_c n r _ hn).mono ?_; rintro e w1 ⟨hm, _, hb1⟩; have he := hm HN.out; clear hm; subst he; have h1 := h.below hb1 (Nat.le_refl _))
        | (go_at_call 12; refine (fault_c _ _ _ _ h1).mono ?_; rw [HF.out]; rintro e w2 ⟨rfl, hb2⟩; have h2 := h1.below hb2 (Nat.le_refl _))
        | (go_at_call 15; refine (number_c _ _ _ _ h2 hr hd h9).mono ?_; rintro e w3 ⟨rfl, hb3⟩)
        | (go_at_call 10; refine (permuted_c _).mono ?_; rintro e w4 ⟨rfl, hb4⟩))
    go_loop [13, 14] (fun all i => ∃ k : Nat, 1 ≤ k ∧ (k ≤ n ∨ k = 1) ∧ i = .int .i64 ((k : Int) + 1) ∧ all = .int .i64 (fac k)) (fun _ i => n + 1 - (intOf i).toNat)
    case atStart => exact ⟨1, Nat.le_refl _, .inr rfl, rfl, rfl⟩
    case round =>
      obtain ⟨k, hk1, hk2, rfl, rfl⟩ := hrel
      by_cases hlt : k + 1 ≤ n
      · have hb := fac9 (n := k) (by omega)
        have hs : Hid (fac (k + 1) = (k + 1) * fac k) := rfl
        have hp0 : (0 : Int) ≤ (fac k : Int) * ((k : Int) + 1) := Int.mul_nonneg (by omega) (by omega)
        have hp1 : (fac k : Int) * ((k : Int) + 1) ≤ 362880 * 10 := Int.mul_le_mul (by omega) (by omega) (by omega) (by omega)
        go_wp2
        go_round
        case rel => exact ⟨k + 1, by omega, .inl hlt, by go_num, by rw [hs.out, Int.natCast_mul, Int.mul_comm]; rfl⟩
        case measure => simp [intOf]; omega
      · have hkf : Hid (fac k = fac n) := by
          by_cases e : k = n
          · exact congrArg fac e
          · have h0 : n = 0 := by omega
            have h1 : k = 1 := by omega
            subst h0 h1; rfl
        rcases HN.out with hm | hm
        · go_wp2
          go_ret
          exact ⟨rfl, hb1.trans ((hb2.mono hb1.size).trans ((hb3.mono (Nat.le_trans hb1.size hb2.size)).trans (hb4.mono (Nat.le_trans hb1.size (Nat.le_trans hb2.size hb3.size)))))⟩
        · rw [← hkf.out] at hm
          go_wp2
          go_ret
          exact ⟨rfl, hb1.trans ((hb2.mono hb1.size).trans ((hb3.mono (Nat.le_trans hb1.size hb2.size)).trans (hb4.mono (Nat.le_trans hb1.size (Nat.le_trans hb2.size hb3.size)))))⟩
  · have hv : (rankV xs != 0) = false := by rw [rankV, if_neg hf]; rfl
    have hf2 : (permFault xs == 0) = false := by simpa using hf
    clear hf
    go_enter Try.func4, Try.ntmps4
    go_wp2_with (first
        | (go_at_call 13; refine (rank_any _ _ _ _ h).mono ?_; rintro e w' ⟨rfl, rfl⟩)
        | (go_at_call 14; refine (unrank_c n r _ hn).mono ?_; rintro e w1 ⟨hm, _, hb1⟩; have he := hm HN.out; clear hm; subst he; have h1 := h.below hb1 (Nat.le_refl _))
        | (go_at_call 12; refine (fault_c _ _ _ _ h1).mono ?_; rintro e w2 ⟨rfl, hb2⟩; have h2 := h1.below hb2 (Nat.le_refl _))
        | (go_at_call 10; refine (permuted_c _).mono ?_; rintro e w4 ⟨rfl, hb4⟩))
    go_loop [13, 14] (fun all i => ∃ k : Nat, 1 ≤ k ∧ (k ≤ n ∨ k = 1) ∧ i = .int .i64 ((k : Int) + 1) ∧ all = .int .i64 (fac k)) (fun _ i => n + 1 - (intOf i).toNat)
    case atStart => exact ⟨1, Nat.le_refl _, .inr rfl, rfl, rfl⟩
    case round =>
      obtain ⟨k, hk1, hk2, rfl, rfl⟩ := hrel
      by_cases hlt : k + 1 ≤ n
      · have hb := fac9 (n := k) (by omega)
        have hs : Hid (fac (k + 1) = (k + 1) * fac k) := rfl
        have hp0 : (0 : Int) ≤ (fac k : Int) * ((k : Int) + 1) := Int.mul_nonneg (by omega) (by omega)
        have hp1 : (fac k : Int) * ((k : Int) + 1) ≤ 362880 * 10 := Int.mul_le_mul (by omega) (by omega) (by omega) (by omega)
        go_wp2
        go_round
        case rel => exact ⟨k + 1, by omega, .inl hlt, by go_num, by rw [hs.out, Int.natCast_mul, Int.mul_comm]; rfl⟩
        case measure => simp [intOf]; omega
      · have hkf : Hid (fac k = fac n) := by
          by_cases e : k = n
          · exact congrArg fac e
          · have h0 : n = 0 := by omega
            have h1 : k = 1 := by omega
            subst h0 h1; rfl
        rcases HN.out with hm | hm
        · go_wp2
          go_ret
          exact ⟨rfl, hb1.trans ((hb2.mono hb1.size).trans (hb4.mono (Nat.le_trans hb1.size hb2.size)))⟩
        · rw [← hkf.out] at hm
          go_wp2
          go_ret
          exact ⟨rfl, hb1.trans ((hb2.mono hb1.size).trans (hb4.mono (Nat.le_trans hb1.size hb2.size)))⟩

set_option maxRecDepth 100000 in
set_option maxHeartbeats 2000000 in
theorem permRanks_ok (A : Option Addr) (cap : Nat) (xs : List Int) (n R : Nat) (w : World) (h : IsInts w A cap xs) (hn : n ≤ 9) (hR : R < fac n) :
    Calls Try.prog 4 #[.slice A xs.length cap, .int .i64 n, .int .i64 R] w fun e w' => e = .returned (.bool true) ∧ Below w.heap.size w w' := by
  have hpp := ur_perm n (idRow n) R (idRow_len n) hR
  have hlen : Hid ((ur n (idRow n) R).length = n) := ur_len _ _ _
  obtain ⟨hpr, hpd⟩ := of_perm_idRow hpp
  have HP0 := Lib.hid (permFault_of hpr hpd (by rw [ur_len]; exact hn))
  have HPN := Lib.hid (number_ur hR)
  have hp9 : (ur n (idRow n) R).length ≤ 9 := by rw [ur_len]; exact hn
  clear hpp
  generalize hps : ur n (idRow n) R = ps at *
  have HPS := Lib.hid hps
  clear hps
  by_cases hf : permFault xs = 0
  · obtain ⟨h9, hr, hd⟩ := permFault_range hf
    have hv : (rankV xs != (number xs : Int)) = false := by rw [number_rank hr hd, rankV, if_pos hf]; simp
    have HF := Lib.hid hf
    clear hf
    go_enter Try.func4, Try.ntmps4
    go_wp2_with (first
        | (go_at_call 13; refine (rank_any _ _ _ _ h).mono ?_; rw [HF.out]; rintro e w' ⟨rfl, rfl⟩)
        | (go_at_call 14; refine (unrank_c n R _ hn).mono ?_; rintro e w1 ⟨_, hm, hb1⟩; obtain ⟨Ap, he, hIp⟩ := hm R rfl hR; rw [HPS.out] at hIp; clear hm; subst he; have h1 := h.below hb1 (Nat.le_refl _))
        | (go_at_call 12; refine (fault_c _ _ _ _ h1).mono ?_; rw [HF.out]; rintro e w2 ⟨rfl, hb2⟩; have h2 := h1.below hb2 (Nat.le_refl _))
        | (go_at_call 15; refine (number_c _ _ _ _ h2 hr hd h9).mono ?_; rintro e w3 ⟨rfl, hb3⟩)
        | (go_at_call 10; refine (permuted_c _).mono ?_; rintro e w4 ⟨rfl, hb4⟩))
    go_loop [13, 14] (fun all i => ∃ k : Nat, 1 ≤ k ∧ (k ≤ n ∨ k = 1) ∧ i = .int .i64 ((k : Int) + 1) ∧ all = .int .i64 (fac k)) (fun _ i => n + 1 - (intOf i).toNat)
    case atStart => exact ⟨1, Nat.le_refl _, .inr rfl, rfl, rfl⟩
    case round =>
      obtain ⟨k, hk1, hk2, rfl, rfl⟩ := hrel
      by_cases hlt : k + 1 ≤ n
      · have hb := fac9 (n := k) (by omega)
        have hs : Hid (fac (k + 1) = (k + 1) * fac k) := rfl
        have hp0 : (0 : Int) ≤ (fac k : Int) * ((k : Int) + 1) := Int.mul_nonneg (by omega) (by omega)
        have hp1 : (fac k : Int) * ((k : Int) + 1) ≤ 362880 * 10 := Int.mul_le_mul (by omega) (by omega) (by omega) (by omega)
        go_wp2
        go_round
        case rel => exact ⟨k + 1, by omega, .inl hlt, by go_num, by rw [hs.out, Int.natCast_mul, Int.mul_comm]; rfl⟩
        case measure => simp [intOf]; omega
      · have hkf : Hid (fac k = fac n) := by
          by_cases e : k = n
          · exact congrArg fac e
          · have h0 : n = 0 := by omega
            have h1 : k = 1 := by omega
            subst h0 h1; rfl
        have hR2 : R < fac k := by rw [hkf.out]; exact hR
        have hl := hlen.out
        subst hl
        have hIp4 := hIp.below (hb2.trans ((hb3.mono hb2.size).trans (hb4.mono (Nat.le_trans hb2.size hb3.size)))) (Nat.le_refl _)
        go_wp2_with (first
          | (go_at_call 12; refine (fault_c _ _ _ _ hIp4).mono ?_; rw [HP0.out]; rintro e w5 ⟨rfl, hb5⟩; have hIp5 := hIp4.below hb5 (Nat.le_refl _))
          | (go_at_call 15; refine (number_c _ _ _ _ hIp5 hpr hpd hp9).mono ?_; rw [HPN.out]; rintro e w6 ⟨rfl, hb6⟩))
        go_ret
        have hba : Below w.heap.size w w4 := hb1.trans ((hb2.mono hb1.size).trans ((hb3.mono (Nat.le_trans hb1.size hb2.size)).trans (hb4.mono (Nat.le_trans hb1.size (Nat.le_trans hb2.size hb3.size)))))
        exact ⟨rfl, hba.trans ((hb5.mono hba.size).trans (hb6.mono (Nat.le_trans hba.size hb5.size)))⟩
  · have hv : (rankV xs != 0) = false := by rw [rankV, if_neg hf]; rfl
    have hf2 : (permFault xs == 0) = false := by simpa using hf
    clear hf
    go_enter Try.func4, Try.ntmps4
    go_wp2_with (first
        | (go_at_call 13; refine (rank_any _ _ _ _ h).mono ?_; rintro e w' ⟨rfl, rfl⟩)
        | (go_at_call 14; refine (unrank_c n R _ hn).mono ?_; rintro e w1 ⟨_, hm, hb1⟩; obtain ⟨Ap, he, hIp⟩ := hm R rfl hR; rw [HPS.out] at hIp; clear hm; subst he; have h1 := h.below hb1 (Nat.le_refl _))
        | (go_at_call 12; refine (fault_c _ _ _ _ h1).mono ?_; rintro e w2 ⟨rfl, hb2⟩; have h2 := h1.below hb2 (Nat.le_refl _))
        | (go_at_call 10; refine (permuted_c _).mono ?_; rintro e w4 ⟨rfl, hb4⟩))
    go_loop [13, 14] (fun all i => ∃ k : Nat, 1 ≤ k ∧ (k ≤ n ∨ k = 1) ∧ i = .int .i64 ((k : Int) + 1) ∧ all = .int .i64 (fac k)) (fun _ i => n + 1 - (intOf i).toNat)
    case atStart => exact ⟨1, Nat.le_refl _, .inr rfl, rfl, rfl⟩
    case round =>
      obtain ⟨k, hk1, hk2, rfl, rfl⟩ := hrel
      by_cases hlt : k + 1 ≤ n
      · have hb := fac9 (n := k) (by omega)
        have hs : Hid (fac (k + 1) = (k + 1) * fac k) := rfl
        have hp0 : (0 : Int) ≤ (fac k : Int) * ((k : Int) + 1) := Int.mul_nonneg (by omega) (by omega)
        have hp1 : (fac k : Int) * ((k : Int) + 1) ≤ 362880 * 10 := Int.mul_le_mul (by omega) (by omega) (by omega) (by omega)
        go_wp2
        go_round
        case rel => exact ⟨k + 1, by omega, .inl hlt, by go_num, by rw [hs.out, Int.natCast_mul, Int.mul_comm]; rfl⟩
        case measure => simp [intOf]; omega
      · have hkf : Hid (fac k = fac n) := by
          by_cases e : k = n
          · exact congrArg fac e
          · have h0 : n = 0 := by omega
            have h1 : k = 1 := by omega
            subst h0 h1; rfl
        have hR2 : R < fac k := by rw [hkf.out]; exact hR
        have hl := hlen.out
        subst hl
        have hIp4 := hIp.below (hb2.trans (hb4.mono hb2.size)) (Nat.le_refl _)
        go_wp2_with (first
          | (go_at_call 12; refine (fault_c _ _ _ _ hIp4).mono ?_; rw [HP0.out]; rintro e w5 ⟨rfl, hb5⟩; have hIp5 := hIp4.below hb5 (Nat.le_refl _))
          | (go_at_call 15; refine (number_c _ _ _ _ hIp5 hpr hpd hp9).mono ?_; rw [HPN.out]; rintro e w6 ⟨rfl, hb6⟩))
        go_ret
        have hba : Below w.heap.size w w4 := hb1.trans ((hb2.mono hb1.size).trans (hb4.mono (Nat.le_trans hb1.size hb2.size)))
        exact ⟨rfl, hba.trans ((hb5.mono hba.size).trans (hb6.mono (Nat.le_trans hba.size hb5.size)))⟩

theorem permRanks_walk (A : Option Addr) (cap : Nat) (xs : List Int) (n r : Int) (w : World) (h : IsInts w A cap xs) :
    Calls Try.prog 4 #[.slice A xs.length cap, .int .i64 n, .int .i64 r] w fun e w' => e = .returned (.bool true) ∧ Below w.heap.size w w' := by
  by_cases hn : n < 0 ∨ 9 < n
  · exact permRanks_arg A cap xs n r w h hn
  · obtain ⟨N, rfl⟩ : ∃ N : Nat, n = N := ⟨n.toNat, by omega⟩
    by_cases hm : r < 0 ∨ (fac N : Int) ≤ r
    · exact permRanks_miss A cap xs N r w h (by omega) hm
    · obtain ⟨R, rfl⟩ : ∃ R : Nat, r = R := ⟨r.toNat, by omega⟩
      exact permRanks_ok A cap xs N R w h (by omega) (by omega)
end Go.Proofs.Ytmfghdjnojbalaa
