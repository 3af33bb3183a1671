/- intmatrix.smith and Smith. No condition of its own. -/
import Derived.Test.YtgjfpmjllpgadaaGColorCountsBI
import Derived.Test.YtgjfpmjllpgadaaGColorCountsBS
set_option linter.unusedVariables false
set_option linter.unusedSimpArgs false
namespace Go.Proofs.Ytgjfpmjllpgadaa
open Go.RowKit

set_option maxHeartbeats 16000000 in
set_option maxRecDepth 100000 in
theorem smith_o {m : List (List Int)} {n k : Nat} (h : Mx m n k) {D : Nat → Nat} (hD : Dv m n k D) : SCo Try.prog 131 [plls m] 1 (min n k) (ints (facs D (min n k))) := by
  have kc := columns_s h
  have hlen := h.len
  have hn6 := h.hn
  have hk6 := h.hk
  have t1 := two_le hn6
  have t2 := two_le hk6
  obtain ⟨q, hq⟩ : ∃ q, q = min n k := ⟨_, rfl⟩
  rw [← hq]
  refine SCo.go {} tok mixed Try.func131 rfl rfl Try.ntmps131 rfl rfl (by kernel_rfl) ?_
  first | simp only [updS] | simp only [updL, Nat.reduceAdd]
  repeat (first | refine S0 ?_ | refine S1 ?_ | refine S2 ?_ | refine S3 ?_ | refine S4 ?_ | refine S5 ?_ | refine S6 ?_ | refine S7 ?_ | refine S8 ?_ | refine S10 ?_ | refine S11 ?_ | refine S13 ?_ | refine S15 ?_ | refine S16 ?_ | refine S19 ?_ | refine S20 ?_ | refine S21 ?_ | refine S22 ?_ | refine S23 ?_ | refine S27 ?_ | refine S28 ?_ | refine S29 ?_ | refine S31 ?_ | refine S33 ?_ | refine S46 ?_ | refine S49 ?_ | refine S52 ?_ | refine S55 ?_ | refine S63 ?_ | refine S65 ?_ | refine S71 ?_)
  refine Scall (args := [plls m]) kc ?_
  (first | refine S0 ?_ | refine S1 ?_ | refine S2 ?_ | refine S3 ?_ | refine S4 ?_ | refine S5 ?_ | refine S6 ?_ | refine S7 ?_ | refine S8 ?_ | refine S10 ?_ | refine S11 ?_ | refine S13 ?_ | refine S15 ?_ | refine S16 ?_ | refine S19 ?_ | refine S20 ?_ | refine S21 ?_ | refine S22 ?_ | refine S23 ?_ | refine S27 ?_ | refine S28 ?_ | refine S29 ?_ | refine S31 ?_ | refine S33 ?_ | refine S46 ?_ | refine S49 ?_ | refine S52 ?_ | refine S55 ?_ | refine S63 ?_ | refine S65 ?_ | refine S71 ?_)
  rw [show (if (k : Int) < (m.length : Int) then (k : Int) else (m.length : Int)) = (q : Int) by rw [hq, hlen]; split <;> omega]
  have hq6 : q ≤ 6 := by omega
  repeat (first | refine S0 ?_ | refine S1 ?_ | refine S2 ?_ | refine S3 ?_ | refine S4 ?_ | refine S5 ?_ | refine S6 ?_ | refine S7 ?_ | refine S8 ?_ | refine S10 ?_ | refine S11 ?_ | refine S13 ?_ | refine S15 ?_ | refine S16 ?_ | refine S19 ?_ | refine S20 ?_ | refine S21 ?_ | refine S22 ?_ | refine S23 ?_ | refine S27 ?_ | refine S28 ?_ | refine S29 ?_ | refine S31 ?_ | refine S33 ?_ | refine S46 ?_ | refine S49 ?_ | refine S52 ?_ | refine S55 ?_ | refine S63 ?_ | refine S65 ?_ | refine S71 ?_)
  rw [hlen]
  refine AW.binf EVx EVx (bin_shl n (by omega) _ _ _) ?_
  repeat (first | refine S0 ?_ | refine S1 ?_ | refine S2 ?_ | refine S3 ?_ | refine S4 ?_ | refine S5 ?_ | refine S6 ?_ | refine S7 ?_ | refine S8 ?_ | refine S10 ?_ | refine S11 ?_ | refine S13 ?_ | refine S15 ?_ | refine S16 ?_ | refine S19 ?_ | refine S20 ?_ | refine S21 ?_ | refine S22 ?_ | refine S23 ?_ | refine S27 ?_ | refine S28 ?_ | refine S29 ?_ | refine S31 ?_ | refine S33 ?_ | refine S46 ?_ | refine S49 ?_ | refine S52 ?_ | refine S55 ?_ | refine S63 ?_ | refine S65 ?_ | refine S71 ?_)
  refine CW.loopS (fun i : Nat × (Nat → Nat) => i.1 ≤ 2 ^ n ∧ MInv m n k i.1 0 i.2) (fun i => [(0, plls m), (3, pint q), (4, .ref 0 0 1 (q + 1)), (21, pint ((2 ^ n : Nat) : Int)), (22, pint i.1)]) (fun i h => h.blk 0 = some (ints (tabN (q + 1) i.2)) ∧ 1 ≤ h.next) (fun i => 2 ^ n - i.1) (0, fun _ => 0)
    ⟨⟨Nat.zero_le _, MInv.start m n k⟩, SLx, by simp only; rw [show tabN (q + 1) (fun _ => 0) = List.replicate (q + 1) (0 : Int) by apply List.ext_getElem <;> simp [tabN]]; exact ⟨HBx, (by first | omega | (simp only [HP.tokF, HP.tokT, HP.next_add, HP.next_set, HP.next_kill, HP.next_H0, HP.next_addS, HP.next_setS, HP.next_killS, HP.next_put, HP.next_bump, HP.next_putS]; omega))⟩⟩ ?_
  rintro ⟨R, f⟩ t hp ⟨hR, hI⟩ ⟨hB, hnx⟩
  simp only at hR hI hB
  first | simp only [updS] | simp only [updL, Nat.reduceAdd]
  by_cases hlt : R < 2 ^ n
  · repeat (first | refine S0 ?_ | refine S1 ?_ | refine S2 ?_ | refine S3 ?_ | refine S4 ?_ | refine S5 ?_ | refine S6 ?_ | refine S7 ?_ | refine S8 ?_ | refine S10 ?_ | refine S11 ?_ | refine S13 ?_ | refine S15 ?_ | refine S16 ?_ | refine S19 ?_ | refine S20 ?_ | refine S21 ?_ | refine S22 ?_ | refine S23 ?_ | refine S27 ?_ | refine S28 ?_ | refine S29 ?_ | refine S31 ?_ | refine S33 ?_ | refine S46 ?_ | refine S49 ?_ | refine S52 ?_ | refine S55 ?_ | refine S63 ?_ | refine S65 ?_ | refine S71 ?_)
    refine Scall (args := [plls m]) kc ?_
    repeat (first | refine S0 ?_ | refine S1 ?_ | refine S2 ?_ | refine S3 ?_ | refine S4 ?_ | refine S5 ?_ | refine S6 ?_ | refine S7 ?_ | refine S8 ?_ | refine S10 ?_ | refine S11 ?_ | refine S13 ?_ | refine S15 ?_ | refine S16 ?_ | refine S19 ?_ | refine S20 ?_ | refine S21 ?_ | refine S22 ?_ | refine S23 ?_ | refine S27 ?_ | refine S28 ?_ | refine S29 ?_ | refine S31 ?_ | refine S33 ?_ | refine S46 ?_ | refine S49 ?_ | refine S52 ?_ | refine S55 ?_ | refine S63 ?_ | refine S65 ?_ | refine S71 ?_)
    refine AW.binf EVx EVx (bin_shl k (by omega) _ _ _) ?_
    repeat (first | refine S0 ?_ | refine S1 ?_ | refine S2 ?_ | refine S3 ?_ | refine S4 ?_ | refine S5 ?_ | refine S6 ?_ | refine S7 ?_ | refine S8 ?_ | refine S10 ?_ | refine S11 ?_ | refine S13 ?_ | refine S15 ?_ | refine S16 ?_ | refine S19 ?_ | refine S20 ?_ | refine S21 ?_ | refine S22 ?_ | refine S23 ?_ | refine S27 ?_ | refine S28 ?_ | refine S29 ?_ | refine S31 ?_ | refine S33 ?_ | refine S46 ?_ | refine S49 ?_ | refine S52 ?_ | refine S55 ?_ | refine S63 ?_ | refine S65 ?_ | refine S71 ?_)
    refine CW.loopS (fun i : Nat × (Nat → Nat) => i.1 ≤ 2 ^ k ∧ MInv m n k R i.1 i.2) (fun i => [(0, plls m), (3, pint q), (4, .ref 0 0 1 (q + 1)), (5, pint R), (21, pint ((2 ^ n : Nat) : Int)), (22, pint R), (27, pint ((2 ^ k : Nat) : Int)), (28, pint i.1)]) (fun i h => h.blk 0 = some (ints (tabN (q + 1) i.2)) ∧ 1 ≤ h.next) (fun i => 2 ^ k - i.1) (0, f)
      ⟨⟨Nat.zero_le _, hI⟩, SLx, hB, hnx⟩ ?_
    clear hB hnx hp t hI f
    rintro ⟨C, f⟩ t hp ⟨hC, hI⟩ ⟨hB, hnx⟩
    simp only at hC hI hB
    first | simp only [updS] | simp only [updL, Nat.reduceAdd]
    by_cases hlt2 : C < 2 ^ k
    · have k1 := mcount_s R (by omega)
      have k2 := mcount_s C (by omega)
      rw [bits_6 hlt hn6] at k1
      rw [bits_6 hlt2 hk6] at k2
      repeat (first | refine S0 ?_ | refine S1 ?_ | refine S2 ?_ | refine S3 ?_ | refine S4 ?_ | refine S5 ?_ | refine S6 ?_ | refine S7 ?_ | refine S8 ?_ | refine S10 ?_ | refine S11 ?_ | refine S13 ?_ | refine S15 ?_ | refine S16 ?_ | refine S19 ?_ | refine S20 ?_ | refine S21 ?_ | refine S22 ?_ | refine S23 ?_ | refine S27 ?_ | refine S28 ?_ | refine S29 ?_ | refine S31 ?_ | refine S33 ?_ | refine S46 ?_ | refine S49 ?_ | refine S52 ?_ | refine S55 ?_ | refine S63 ?_ | refine S65 ?_ | refine S71 ?_)
      refine Scall (args := [pint R]) k1 ?_
      repeat (first | refine S0 ?_ | refine S1 ?_ | refine S2 ?_ | refine S3 ?_ | refine S4 ?_ | refine S5 ?_ | refine S6 ?_ | refine S7 ?_ | refine S8 ?_ | refine S10 ?_ | refine S11 ?_ | refine S13 ?_ | refine S15 ?_ | refine S16 ?_ | refine S19 ?_ | refine S20 ?_ | refine S21 ?_ | refine S22 ?_ | refine S23 ?_ | refine S27 ?_ | refine S28 ?_ | refine S29 ?_ | refine S31 ?_ | refine S33 ?_ | refine S46 ?_ | refine S49 ?_ | refine S52 ?_ | refine S55 ?_ | refine S63 ?_ | refine S65 ?_ | refine S71 ?_)
      refine Scall (args := [pint C]) k2 ?_
      repeat (first | refine S0 ?_ | refine S1 ?_ | refine S2 ?_ | refine S3 ?_ | refine S4 ?_ | refine S5 ?_ | refine S6 ?_ | refine S7 ?_ | refine S8 ?_ | refine S10 ?_ | refine S11 ?_ | refine S13 ?_ | refine S15 ?_ | refine S16 ?_ | refine S19 ?_ | refine S20 ?_ | refine S21 ?_ | refine S22 ?_ | refine S23 ?_ | refine S27 ?_ | refine S28 ?_ | refine S29 ?_ | refine S31 ?_ | refine S33 ?_ | refine S46 ?_ | refine S49 ?_ | refine S52 ?_ | refine S55 ?_ | refine S63 ?_ | refine S65 ?_ | refine S71 ?_)
      by_cases he : (bitsL R n).length = (bitsL C k).length
      · have hd1 := bits_len R n
        have hd2 := bits_len C k
        obtain ⟨d, hd⟩ : ∃ d, d = (bitsL R n).length := ⟨_, rfl⟩
        have km := minor_s h d R C (by omega) (by omega) (by rw [bits_6 hlt hn6]; exact hd.symm) (fun i hi => by rw [bits_6 hlt hn6] at hi; exact (mem_bits.1 hi).1) (by omega)
        rw [bits_6 hlt hn6] at km
        have hlb := lap_bd h.bd (bitsL R n) (bitsL C k) (by omega)
        rw [← hd] at hlb
        have hp6 := pow600_6 (show d ≤ 6 by omega)
        have hfb := hI.bd d
        have kg := mgcd_s (f d) (lap (ent m) (bitsL R n) (bitsL C k)) (by omega) (by omega)
        have hget : (tabN (q + 1) f).getD d 0 = (f d : Int) := tabN_get (by omega)
        have hlt3 : (tabN (q + 1) f).length = q + 1 := by simp
        have hI2 := hI.take hlt hlt2 hd.symm (by omega) (by omega)
        rw [← he, ← hd]
        repeat (first | refine S0 ?_ | refine S1 ?_ | refine S2 ?_ | refine S3 ?_ | refine S4 ?_ | refine S5 ?_ | refine S6 ?_ | refine S7 ?_ | refine S8 ?_ | refine S10 ?_ | refine S11 ?_ | refine S13 ?_ | refine S15 ?_ | refine S16 ?_ | refine S19 ?_ | refine S20 ?_ | refine S21 ?_ | refine S22 ?_ | refine S23 ?_ | refine S27 ?_ | refine S28 ?_ | refine S29 ?_ | refine S31 ?_ | refine S33 ?_ | refine S46 ?_ | refine S49 ?_ | refine S52 ?_ | refine S55 ?_ | refine S63 ?_ | refine S65 ?_ | refine S71 ?_)
        rw [hget]
        refine Scall (args := [plls m, pint R, pint C]) km ?_
        repeat (first | refine S0 ?_ | refine S1 ?_ | refine S2 ?_ | refine S3 ?_ | refine S4 ?_ | refine S5 ?_ | refine S6 ?_ | refine S7 ?_ | refine S8 ?_ | refine S10 ?_ | refine S11 ?_ | refine S13 ?_ | refine S15 ?_ | refine S16 ?_ | refine S19 ?_ | refine S20 ?_ | refine S21 ?_ | refine S22 ?_ | refine S23 ?_ | refine S27 ?_ | refine S28 ?_ | refine S29 ?_ | refine S31 ?_ | refine S33 ?_ | refine S46 ?_ | refine S49 ?_ | refine S52 ?_ | refine S55 ?_ | refine S63 ?_ | refine S65 ?_ | refine S71 ?_)
        refine Scall (args := [pint (f d), pint (lap (ent m) (bitsL R n) (bitsL C k))]) kg ?_
        repeat (first | refine S0 ?_ | refine S1 ?_ | refine S2 ?_ | refine S3 ?_ | refine S4 ?_ | refine S5 ?_ | refine S6 ?_ | refine S7 ?_ | refine S8 ?_ | refine S10 ?_ | refine S11 ?_ | refine S13 ?_ | refine S15 ?_ | refine S16 ?_ | refine S19 ?_ | refine S20 ?_ | refine S21 ?_ | refine S22 ?_ | refine S23 ?_ | refine S27 ?_ | refine S28 ?_ | refine S29 ?_ | refine S31 ?_ | refine S33 ?_ | refine S46 ?_ | refine S49 ?_ | refine S52 ?_ | refine S55 ?_ | refine S63 ?_ | refine S65 ?_ | refine S71 ?_)
        refine ⟨(C + 1, setF f d (Int.gcd (f d) (lap (ent m) (bitsL R n) (bitsL C k)))), ⟨by simp only; omega, hI2⟩, SLx, ⟨?_, by simp only [HP.next_set]; exact hnx⟩, by simp only; omega⟩
        show _ = some (ints (tabN (q + 1) (setF f d (Int.gcd (f d) (lap (ent m) (bitsL R n) (bitsL C k))))))
        rw [← tab_setN]
        exact HBx
      · have hI2 := hI.skip he
        repeat (first | refine S0 ?_ | refine S1 ?_ | refine S2 ?_ | refine S3 ?_ | refine S4 ?_ | refine S5 ?_ | refine S6 ?_ | refine S7 ?_ | refine S8 ?_ | refine S10 ?_ | refine S11 ?_ | refine S13 ?_ | refine S15 ?_ | refine S16 ?_ | refine S19 ?_ | refine S20 ?_ | refine S21 ?_ | refine S22 ?_ | refine S23 ?_ | refine S27 ?_ | refine S28 ?_ | refine S29 ?_ | refine S31 ?_ | refine S33 ?_ | refine S46 ?_ | refine S49 ?_ | refine S52 ?_ | refine S55 ?_ | refine S63 ?_ | refine S65 ?_ | refine S71 ?_)
        exact ⟨(C + 1, f), ⟨by simp only; omega, hI2⟩, SLx, ⟨hB, hnx⟩, by simp only; omega⟩
    · obtain rfl : C = 2 ^ k := by omega
      repeat (first | refine S0 ?_ | refine S1 ?_ | refine S2 ?_ | refine S3 ?_ | refine S4 ?_ | refine S5 ?_ | refine S6 ?_ | refine S7 ?_ | refine S8 ?_ | refine S10 ?_ | refine S11 ?_ | refine S13 ?_ | refine S15 ?_ | refine S16 ?_ | refine S19 ?_ | refine S20 ?_ | refine S21 ?_ | refine S22 ?_ | refine S23 ?_ | refine S27 ?_ | refine S28 ?_ | refine S29 ?_ | refine S31 ?_ | refine S33 ?_ | refine S46 ?_ | refine S49 ?_ | refine S52 ?_ | refine S55 ?_ | refine S63 ?_ | refine S65 ?_ | refine S71 ?_)
      exact ⟨(R + 1, f), ⟨by simp only; omega, hI.row⟩, SLx, ⟨hB, hnx⟩, by simp only; omega⟩
  · obtain rfl : R = 2 ^ n := by omega
    obtain rfl : f = D := funext (fun j => hI.dvs.uniq hD j)
    have hbd := hI.bd
    repeat (first | refine S0 ?_ | refine S1 ?_ | refine S2 ?_ | refine S3 ?_ | refine S4 ?_ | refine S5 ?_ | refine S6 ?_ | refine S7 ?_ | refine S8 ?_ | refine S10 ?_ | refine S11 ?_ | refine S13 ?_ | refine S15 ?_ | refine S16 ?_ | refine S19 ?_ | refine S20 ?_ | refine S21 ?_ | refine S22 ?_ | refine S23 ?_ | refine S27 ?_ | refine S28 ?_ | refine S29 ?_ | refine S31 ?_ | refine S33 ?_ | refine S46 ?_ | refine S49 ?_ | refine S52 ?_ | refine S55 ?_ | refine S63 ?_ | refine S65 ?_ | refine S71 ?_)
    refine CW.own 8 1 rfl ?_
    refine CW.loopS (fun i : Nat × Nat => i.1 ≤ q ∧ i.2 ≠ 0 ∧ i.2 % 2 = 0) (fun i => [(3, pint q), (4, .ref 0 0 1 (q + 1)), (8, .ref i.2 0 1 i.1), (9, pint ((i.1 : Int) + 1))])
      (fun i hp => hp.blk 0 = some (ints (tabN (q + 1) f)) ∧ hp.blk i.2 = some (ints (facs f i.1)) ∧ 1 ≤ hp.next ∧ i.2 < 2 * hp.next) (fun i => q - i.1) (0, hp.tok false) ⟨⟨Nat.zero_le _, by simp [HP.tok]; omega, HP.tok_even _⟩, SLx, HBx, HBx, (by first | omega | (simp only [HP.tokF, HP.tokT, HP.next_add, HP.next_set, HP.next_kill, HP.next_H0, HP.next_addS, HP.next_setS, HP.next_killS, HP.next_put, HP.next_bump, HP.next_putS]; omega)), (by first | omega | (simp only [HP.tokF, HP.tokT, HP.next_add, HP.next_set, HP.next_kill, HP.next_H0, HP.next_addS, HP.next_setS, HP.next_killS, HP.next_put, HP.next_bump, HP.next_putS]; omega))⟩ ?_
    clear hB hnx hp t
    rintro ⟨j, to⟩ t hp ⟨hj, ht0, ht2⟩ ⟨hB, hB2, hnx, htl⟩
    simp only at hj ht0 ht2 hB hB2 htl
    first | simp only [updS] | simp only [updL, Nat.reduceAdd]
    by_cases hjq : j < q
    · have hg1 : (tabN (q + 1) f).getD (j + 1) 0 = (f (j + 1) : Int) := tabN_get (by omega)
      have hg2 : (tabN (q + 1) f).getD j 0 = (f j : Int) := tabN_get (by omega)
      have hlt3 : (tabN (q + 1) f).length = q + 1 := by simp
      have hf1 := hbd (j + 1)
      have hf2 := hbd j
      have ej : ((j : Int) + 1).toNat = j + 1 := by omega
      have ej2 : ((j : Int) + 1 - 1).toNat = j := by omega
      have hg3 : (tabN (q + 1) f).getD ((j : Int) + 1).toNat 0 = (f (j + 1) : Int) := by rw [ej]; exact hg1
      have hg4 : (tabN (q + 1) f).getD ((j : Int) + 1 - 1).toNat 0 = (f j : Int) := by rw [ej2]; exact hg2
      have hfl : (facs f j).length = j := by simp [facs]
      have hfs : facs f (j + 1) = facs f j ++ [if f (j + 1) = 0 then 0 else ((f (j + 1) / f j : Nat) : Int)] := by simp [facs, List.range_succ]
      by_cases h0 : f (j + 1) = 0
      · rw [if_pos h0] at hfs
        repeat (first | refine S0 ?_ | refine S1 ?_ | refine S2 ?_ | refine S3 ?_ | refine S4 ?_ | refine S5 ?_ | refine S6 ?_ | refine S7 ?_ | refine S8 ?_ | refine S10 ?_ | refine S11 ?_ | refine S13 ?_ | refine S15 ?_ | refine S16 ?_ | refine S19 ?_ | refine S20 ?_ | refine S21 ?_ | refine S22 ?_ | refine S23 ?_ | refine S27 ?_ | refine S28 ?_ | refine S29 ?_ | refine S31 ?_ | refine S33 ?_ | refine S46 ?_ | refine S49 ?_ | refine S52 ?_ | refine S55 ?_ | refine S63 ?_ | refine S65 ?_ | refine S71 ?_)
        rw [← hfs]
        exact ⟨(j + 1, hp.tok false), ⟨by simp only; omega, by have := HP.tokF hp; simp only; omega, HP.tok_even _⟩, SLx, ⟨HBx, HBx, (by first | omega | (simp only [HP.tokF, HP.tokT, HP.next_add, HP.next_set, HP.next_kill, HP.next_H0, HP.next_addS, HP.next_setS, HP.next_killS, HP.next_put, HP.next_bump, HP.next_putS]; omega)), (by first | omega | (simp only [HP.tokF, HP.tokT, HP.next_add, HP.next_set, HP.next_kill, HP.next_H0, HP.next_addS, HP.next_setS, HP.next_killS, HP.next_put, HP.next_bump, HP.next_putS]; omega))⟩, by simp only; omega⟩
      · rw [if_neg h0] at hfs
        have h1 : f j ≠ 0 := fun e => h0 (hD.zero e)
        have hdl := Nat.div_le_self (f (j + 1)) (f j)
        repeat (first | refine S0 ?_ | refine S1 ?_ | refine S2 ?_ | refine S3 ?_ | refine S4 ?_ | refine S5 ?_ | refine S6 ?_ | refine S7 ?_ | refine S8 ?_ | refine S10 ?_ | refine S11 ?_ | refine S13 ?_ | refine S15 ?_ | refine S16 ?_ | refine S19 ?_ | refine S20 ?_ | refine S21 ?_ | refine S22 ?_ | refine S23 ?_ | refine S27 ?_ | refine S28 ?_ | refine S29 ?_ | refine S31 ?_ | refine S33 ?_ | refine S46 ?_ | refine S49 ?_ | refine S52 ?_ | refine S55 ?_ | refine S63 ?_ | refine S65 ?_ | refine S71 ?_)
        rw [hg3, hg4, ← Int.natCast_ediv, ← hfs]
        exact ⟨(j + 1, hp.tok false), ⟨by simp only; omega, by have := HP.tokF hp; simp only; omega, HP.tok_even _⟩, SLx, ⟨HBx, HBx, (by first | omega | (simp only [HP.tokF, HP.tokT, HP.next_add, HP.next_set, HP.next_kill, HP.next_H0, HP.next_addS, HP.next_setS, HP.next_killS, HP.next_put, HP.next_bump, HP.next_putS]; omega)), (by first | omega | (simp only [HP.tokF, HP.tokT, HP.next_add, HP.next_set, HP.next_kill, HP.next_H0, HP.next_addS, HP.next_setS, HP.next_killS, HP.next_put, HP.next_bump, HP.next_putS]; omega))⟩, by simp only; omega⟩
    · obtain rfl : j = q := by omega
      repeat (first | refine S0 ?_ | refine S1 ?_ | refine S2 ?_ | refine S3 ?_ | refine S4 ?_ | refine S5 ?_ | refine S6 ?_ | refine S7 ?_ | refine S8 ?_ | refine S10 ?_ | refine S11 ?_ | refine S13 ?_ | refine S15 ?_ | refine S16 ?_ | refine S19 ?_ | refine S20 ?_ | refine S21 ?_ | refine S22 ?_ | refine S23 ?_ | refine S27 ?_ | refine S28 ?_ | refine S29 ?_ | refine S31 ?_ | refine S33 ?_ | refine S46 ?_ | refine S49 ?_ | refine S52 ?_ | refine S55 ?_ | refine S63 ?_ | refine S65 ?_ | refine S71 ?_)
      have hfl : (facs f j).length = j := by simp [facs]
      have e := Ow.ints (h := hp) (t := to) (k := j) (zs := facs f j) (ys := facs f j) hB2 hfl.symm rfl
      rw [hfl] at e
      exact ⟨.inr rfl, e⟩
end Go.Proofs.Ytgjfpmjllpgadaa
