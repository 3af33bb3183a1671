/- The reference's Product of matrices of terms. No condition of its own. -/
import Derived.Test.YtenoiklocdoemaaGAlexanderMinorsBP
set_option linter.unusedVariables false
set_option linter.unusedSimpArgs false
namespace Go.Proofs.Ytenoiklocdoemaa
open Go.RowKit

theorem frzM {n T : Nat} {tk : Nat → Nat} {F : Nat → Nat → Tm} {h : HP} (R : RowsM n n T tk (rowT F n) h) : Fz h (.ref T 0 1 n) (ptmss (matT F n)) := by
  unfold ptmss
  rw [show (matT F n).length = n by simp [matT]]
  refine .ref (cs := outM n tk n) R.out (by rw [outM_len]; omega) (by simp [matT]) (fun j hj => ?_)
  have hj' : j < n := by omega
  rw [Nat.zero_add, show (outM n tk n).getD j .junk = .ref (tk j) 0 1 n by rw [List.getD, outM_get hj' hj']; rfl, show ((matT F n).map ptms).getD j .junk = .lst false 1 n (rowT F n j) by simp [matT, List.getD, hj', ptms, rowT]]
  refine Fz.refC (R.row j hj') (by rw [rowT_len]; omega) (clL_mem.2 (fun c hc => ?_))
  obtain ⟨x, _, rfl⟩ := List.mem_map.1 hc
  rfl
/-- entries before (i, k) are there -/
noncomputable def colT (A B : List (List Tm)) (n i k : Nat) (r c : Nat) : Tm := if r < i ∨ (r = i ∧ c < k) then sumT A B r c n else unitT r c
theorem colT_0 (A B : List (List Tm)) (n : Nat) : colT A B n 0 0 = unitT := by
  funext r c; unfold colT; rw [if_neg (by omega)]
theorem colT_end {A B : List (List Tm)} {n i r : Nat} : rowT (colT A B n i n) n r = rowT (colT A B n (i + 1) 0) n r := by
  unfold rowT colT
  refine List.map_congr_left (fun c hc => ?_)
  have := List.mem_range.1 hc
  by_cases h : r < i ∨ (r = i ∧ c < n)
  · rw [if_pos h, if_pos (by omega)]
  · rw [if_neg h, if_neg (by omega)]
theorem colT_set (A B : List (List Tm)) {n i k : Nat} : (rowT (colT A B n i k) n i).set k (ptm (sumT A B i k n)) = rowT (colT A B n i (k + 1)) n i :=
  rowT_set (if_pos (.inr ⟨rfl, Nat.lt_succ_self k⟩)) (fun d _ hd => by
    unfold colT
    by_cases h : d < k
    · rw [if_pos (.inr ⟨rfl, show d < k + 1 by omega⟩), if_pos (.inr ⟨rfl, h⟩)]
    · rw [if_neg (by omega), if_neg (by omega)])
theorem colT_oth (A B : List (List Tm)) {n i k r : Nat} (h : r ≠ i) : rowT (colT A B n i (k + 1)) n r = rowT (colT A B n i k) n r := by
  unfold rowT colT
  refine List.map_congr_left (fun c _ => ?_)
  by_cases h2 : r < i
  · rw [if_pos (.inl h2), if_pos (.inl h2)]
  · rw [if_neg (by omega), if_neg (by omega)]
set_option maxHeartbeats 16000000 in
set_option maxRecDepth 100000 in
theorem product_s {A B : List (List Tm)} {n b1 b2 : Nat} {M N : Nat → Nat → LP} (hA : TMx A n b1 M) (hB : TMx B n b2 N) : SC Try.prog 33 [ptmss A, ptmss B] (ptmss (prodL A B n)) := by
  have hn6 := hA.hn
  have hAl := hA.len
  have hBl := hB.len
  have hb1 := hA.hB
  have hb2 := hB.hB
  refine SC.go { pc := [44, 45] } tok mixed Try.func33 rfl rfl Try.ntmps33 rfl rfl (by kernel_rfl) ?_
  first | simp only [updS] | simp only [updL, Nat.reduceAdd]
  repeat (first | refine S0 ?_ | refine S1 ?_ | refine S2 ?_ | refine S3 ?_ | refine S4 ?_ | refine S5 ?_ | refine S6 ?_ | refine S7 ?_ | refine S8 ?_ | refine S10 ?_ | refine S11 ?_ | refine S13 ?_ | refine S15 ?_ | refine S16 ?_ | refine S19 ?_ | refine S20 ?_ | refine S21 ?_ | refine S22 ?_ | refine S23 ?_ | refine S24 ?_ | refine S25 ?_ | refine S26 ?_ | refine S27 ?_ | refine S79 ?_)
  rw [hAl]
  refine Scalle (args := [pint n]) (unit_e hn6 _) ?_
  rintro r h' ⟨T, tk, rfl, R, F, G, hTg⟩
  repeat (first | refine S0 ?_ | refine S1 ?_ | refine S2 ?_ | refine S3 ?_ | refine S4 ?_ | refine S5 ?_ | refine S6 ?_ | refine S7 ?_ | refine S8 ?_ | refine S10 ?_ | refine S11 ?_ | refine S13 ?_ | refine S15 ?_ | refine S16 ?_ | refine S19 ?_ | refine S20 ?_ | refine S21 ?_ | refine S22 ?_ | refine S23 ?_ | refine S24 ?_ | refine S25 ?_ | refine S26 ?_ | refine S27 ?_ | refine S79 ?_)
  have hTe := R.evT
  refine CW.loopS (fun i : Nat => i ≤ n) (fun i => [(0, ptmss A), (1, ptmss B), (5, .ref T 0 1 n), (13, .ref T 0 1 n), (14, pint n), (15, pint i)])
    (fun i hp => RowsM n n T tk (rowT (colT A B n i 0) n) hp) (fun i => n - i) 0 ⟨Nat.zero_le _, SLx, ?_⟩ ?_
  · rw [colT_0]; exact R
  clear R F
  rintro i t h1 hi R
  first | simp only [updS] | simp only [updL, Nat.reduceAdd]
  by_cases hi2 : i < n
  · repeat (first | refine S0 ?_ | refine S1 ?_ | refine S2 ?_ | refine S3 ?_ | refine S4 ?_ | refine S5 ?_ | refine S6 ?_ | refine S7 ?_ | refine S8 ?_ | refine S10 ?_ | refine S11 ?_ | refine S13 ?_ | refine S15 ?_ | refine S16 ?_ | refine S19 ?_ | refine S20 ?_ | refine S21 ?_ | refine S22 ?_ | refine S23 ?_ | refine S24 ?_ | refine S25 ?_ | refine S26 ?_ | refine S27 ?_ | refine S79 ?_)
    refine CW.loopS (fun k : Nat => k ≤ n) (fun k => [(0, ptmss A), (1, ptmss B), (5, .ref T 0 1 n), (13, .ref T 0 1 n), (14, pint n), (15, pint i), (6, pint i), (18, .ref T 0 1 n), (19, pint n), (20, pint k)])
      (fun k hp => RowsM n n T tk (rowT (colT A B n i k) n) hp) (fun k => n - k) 0 ⟨Nat.zero_le _, SLx, R⟩ ?_
    clear R t
    rintro k t h2 hk R
    first | simp only [updS] | simp only [updL, Nat.reduceAdd]
    by_cases hk2 : k < n
    · repeat (first | refine S0 ?_ | refine S1 ?_ | refine S2 ?_ | refine S3 ?_ | refine S4 ?_ | refine S5 ?_ | refine S6 ?_ | refine S7 ?_ | refine S8 ?_ | refine S10 ?_ | refine S11 ?_ | refine S13 ?_ | refine S15 ?_ | refine S16 ?_ | refine S19 ?_ | refine S20 ?_ | refine S21 ?_ | refine S22 ?_ | refine S23 ?_ | refine S24 ?_ | refine S25 ?_ | refine S26 ?_ | refine S27 ?_ | refine S79 ?_)
      rw [hAl]
      refine CW.freezeM 8 (tk := h2.tok true) (m := mi fun _ => none) rfl (HP.addS_same _ _ _) ?_
      refine CW.loopS (fun j : Nat => j ≤ n) (fun j => [(0, ptmss A), (1, ptmss B), (5, .ref T 0 1 n), (13, .ref T 0 1 n), (14, pint n), (15, pint i), (6, pint i), (18, .ref T 0 1 n), (19, pint n), (20, pint k), (7, pint k), (8, .fmap (mi (sumT A B i k j))), (24, ptmss A), (25, pint n), (26, pint j)])
        (fun j hp => RowsM n n T tk (rowT (colT A B n i k) n) hp) (fun j => n - j) 0 ⟨Nat.zero_le _, SLx, ?_⟩ ?_
      · exact R.keep (Nat.le_succ _) (fun q q1 q2 => rfl)
      clear R t
      rintro j t h3 hj R
      have hst : ∀ x : PV, x = .fmap (mi (sumT A B i k j)) → x = .fmap (mi (sumT A B i k j)) := fun _ e => e
      first | simp only [updS] | simp only [updL, Nat.reduceAdd]
      by_cases hj2 : j < n
      · have hS := sumT_is hA hB hi2 hk2 j hj
        have hP := (hA.is i j hi2 hj2).mul (hB.is j k hj2 hk2) (hA.sup i j)
        have hm := tmulW_s ((A.getD i []).getD j tm0) ((B.getD j []).getD k tm0) 300 (by omega) ((hA.is i j hi2 hj2).mono hb1).bd ((hB.is j k hj2 hk2).mono hb2).bd
        have hp := tplusW_s (sumT A B i k j) (wT (tmul ((A.getD i []).getD j tm0) ((B.getD j []).getD k tm0))) 1 (b1 + b2) hS.bd hP.bd
        have hra := hA.row i hi2
        have hrb := hB.row j hj2
        repeat (first | refine S0 ?_ | refine S1 ?_ | refine S2 ?_ | refine S3 ?_ | refine S4 ?_ | refine S5 ?_ | refine S6 ?_ | refine S7 ?_ | refine S8 ?_ | refine S10 ?_ | refine S11 ?_ | refine S13 ?_ | refine S15 ?_ | refine S16 ?_ | refine S19 ?_ | refine S20 ?_ | refine S21 ?_ | refine S22 ?_ | refine S23 ?_ | refine S24 ?_ | refine S25 ?_ | refine S26 ?_ | refine S27 ?_ | refine S79 ?_)
        refine AW.ldl EVx rfl (p := ptm ((A.getD i []).getD j tm0)) (by rw [Int.toNat_natCast, Nat.mul_one]; exact mapG_drop0 tm0 (by omega)) ?_
        repeat (first | refine S0 ?_ | refine S1 ?_ | refine S2 ?_ | refine S3 ?_ | refine S4 ?_ | refine S5 ?_ | refine S6 ?_ | refine S7 ?_ | refine S8 ?_ | refine S10 ?_ | refine S11 ?_ | refine S13 ?_ | refine S15 ?_ | refine S16 ?_ | refine S19 ?_ | refine S20 ?_ | refine S21 ?_ | refine S22 ?_ | refine S23 ?_ | refine S24 ?_ | refine S25 ?_ | refine S26 ?_ | refine S27 ?_ | refine S79 ?_)
        refine AW.ldl EVx rfl (p := ptm ((B.getD j []).getD k tm0)) (by rw [Int.toNat_natCast, Nat.mul_one]; exact mapG_drop0 tm0 (by omega)) ?_
        repeat (first | refine S0 ?_ | refine S1 ?_ | refine S2 ?_ | refine S3 ?_ | refine S4 ?_ | refine S5 ?_ | refine S6 ?_ | refine S7 ?_ | refine S8 ?_ | refine S10 ?_ | refine S11 ?_ | refine S13 ?_ | refine S15 ?_ | refine S16 ?_ | refine S19 ?_ | refine S20 ?_ | refine S21 ?_ | refine S22 ?_ | refine S23 ?_ | refine S24 ?_ | refine S25 ?_ | refine S26 ?_ | refine S27 ?_ | refine S79 ?_)
        refine Scall (args := [.fmap (mi ((A.getD i []).getD j tm0)), .fmap (mi ((B.getD j []).getD k tm0))]) hm ?_
        repeat (first | refine S0 ?_ | refine S1 ?_ | refine S2 ?_ | refine S3 ?_ | refine S4 ?_ | refine S5 ?_ | refine S6 ?_ | refine S7 ?_ | refine S8 ?_ | refine S10 ?_ | refine S11 ?_ | refine S13 ?_ | refine S15 ?_ | refine S16 ?_ | refine S19 ?_ | refine S20 ?_ | refine S21 ?_ | refine S22 ?_ | refine S23 ?_ | refine S24 ?_ | refine S25 ?_ | refine S26 ?_ | refine S27 ?_ | refine S79 ?_)
        refine Scall (args := [.fmap (mi (sumT A B i k j)), .fmap (mi (wT (tmul ((A.getD i []).getD j tm0) ((B.getD j []).getD k tm0)))), pint 1]) hp ?_
        repeat (first | refine S0 ?_ | refine S1 ?_ | refine S2 ?_ | refine S3 ?_ | refine S4 ?_ | refine S5 ?_ | refine S6 ?_ | refine S7 ?_ | refine S8 ?_ | refine S10 ?_ | refine S11 ?_ | refine S13 ?_ | refine S15 ?_ | refine S16 ?_ | refine S19 ?_ | refine S20 ?_ | refine S21 ?_ | refine S22 ?_ | refine S23 ?_ | refine S24 ?_ | refine S25 ?_ | refine S26 ?_ | refine S27 ?_ | refine S79 ?_)
        exact ⟨j + 1, by omega, SLx, R, by omega⟩
      · obtain rfl : n = j := by omega
        have hte := R.ev i hi2
        repeat (first | refine S0 ?_ | refine S1 ?_ | refine S2 ?_ | refine S3 ?_ | refine S4 ?_ | refine S5 ?_ | refine S6 ?_ | refine S7 ?_ | refine S8 ?_ | refine S10 ?_ | refine S11 ?_ | refine S13 ?_ | refine S15 ?_ | refine S16 ?_ | refine S19 ?_ | refine S20 ?_ | refine S21 ?_ | refine S22 ?_ | refine S23 ?_ | refine S24 ?_ | refine S25 ?_ | refine S26 ?_ | refine S27 ?_ | refine S79 ?_)
        rw [show 0 + (i : Int).toNat * 1 = i by simp]
        refine AW.ldm EVx (by first | exact Or.inl rfl | exact Or.inr ⟨rfl, HP.tok_even _⟩ | exact Or.inr (Or.inl ⟨rfl, HP.tok_even _⟩) | exact Or.inr (Or.inr ⟨rfl, HP.tok_odd _⟩) | exact Or.inr (Or.inl rfl) | exact Or.inr (Or.inr (Or.inl rfl)) | exact Or.inr (Or.inr (Or.inr (Or.inl ⟨rfl, HP.tok_odd _⟩))) | exact Or.inr (Or.inr (Or.inr (Or.inr ⟨rfl, HP.tok_even _⟩))) | exact Or.inr (Or.inr (Or.inr (Or.inr ⟨rfl, by assumption⟩))) | exact Or.inr ⟨rfl, by assumption⟩ | exact Or.inr (Or.inl ⟨rfl, by assumption⟩) | exact Or.inr (Or.inr ⟨rfl, by assumption⟩) | exact Or.inr (Or.inr (Or.inr (Or.inl ⟨rfl, by assumption⟩))) | exact Or.inr (Or.inr (Or.inl ⟨rfl, HP.tok_odd _⟩)) | exact Or.inr (Or.inr (Or.inl ⟨rfl, by assumption⟩)) | exact Or.inr (Or.inr (Or.inr rfl)) | exact Or.inr (Or.inr rfl) | exact Or.inr rfl) rfl R.out (outM_get hi2 hi2) ?_
        repeat (first | refine S0 ?_ | refine S1 ?_ | refine S2 ?_ | refine S3 ?_ | refine S4 ?_ | refine S5 ?_ | refine S6 ?_ | refine S7 ?_ | refine S8 ?_ | refine S10 ?_ | refine S11 ?_ | refine S13 ?_ | refine S15 ?_ | refine S16 ?_ | refine S19 ?_ | refine S20 ?_ | refine S21 ?_ | refine S22 ?_ | refine S23 ?_ | refine S24 ?_ | refine S25 ?_ | refine S26 ?_ | refine S27 ?_ | refine S79 ?_)
        rw [show 0 + (k : Int).toNat * 1 = k by simp]
        refine AW.stR (r := rowT (colT A B n i (k + 1)) n i) EVx (by first | exact Or.inl rfl | exact Or.inr ⟨rfl, HP.tok_even _⟩ | exact Or.inr (Or.inl ⟨rfl, HP.tok_even _⟩) | exact Or.inr (Or.inr ⟨rfl, HP.tok_odd _⟩) | exact Or.inr (Or.inl rfl) | exact Or.inr (Or.inr (Or.inl rfl)) | exact Or.inr (Or.inr (Or.inr (Or.inl ⟨rfl, HP.tok_odd _⟩))) | exact Or.inr (Or.inr (Or.inr (Or.inr ⟨rfl, HP.tok_even _⟩))) | exact Or.inr (Or.inr (Or.inr (Or.inr ⟨rfl, by assumption⟩))) | exact Or.inr ⟨rfl, by assumption⟩ | exact Or.inr (Or.inl ⟨rfl, by assumption⟩) | exact Or.inr (Or.inr ⟨rfl, by assumption⟩) | exact Or.inr (Or.inr (Or.inr (Or.inl ⟨rfl, by assumption⟩))) | exact Or.inr (Or.inr (Or.inl ⟨rfl, HP.tok_odd _⟩)) | exact Or.inr (Or.inr (Or.inl ⟨rfl, by assumption⟩)) | exact Or.inr (Or.inr (Or.inr rfl)) | exact Or.inr (Or.inr rfl) | exact Or.inr rfl) EVx rfl (R.row i hi2) (by rw [rowT_len]; omega) rfl (colT_set A B) ?_
        repeat (first | refine S0 ?_ | refine S1 ?_ | refine S2 ?_ | refine S3 ?_ | refine S4 ?_ | refine S5 ?_ | refine S6 ?_ | refine S7 ?_ | refine S8 ?_ | refine S10 ?_ | refine S11 ?_ | refine S13 ?_ | refine S15 ?_ | refine S16 ?_ | refine S19 ?_ | refine S20 ?_ | refine S21 ?_ | refine S22 ?_ | refine S23 ?_ | refine S24 ?_ | refine S25 ?_ | refine S26 ?_ | refine S27 ?_ | refine S79 ?_)
        exact ⟨k + 1, by omega, SLx, R.turn hi2 (Nat.le_refl _) (HP.set_same _ _ _) (fun q _ _ q3 => HP.set_other _ _ q3) (fun r _ hr => colT_oth A B hr), by omega⟩
    · obtain rfl : n = k := by omega
      repeat (first | refine S0 ?_ | refine S1 ?_ | refine S2 ?_ | refine S3 ?_ | refine S4 ?_ | refine S5 ?_ | refine S6 ?_ | refine S7 ?_ | refine S8 ?_ | refine S10 ?_ | refine S11 ?_ | refine S13 ?_ | refine S15 ?_ | refine S16 ?_ | refine S19 ?_ | refine S20 ?_ | refine S21 ?_ | refine S22 ?_ | refine S23 ?_ | refine S24 ?_ | refine S25 ?_ | refine S26 ?_ | refine S27 ?_ | refine S79 ?_)
      exact ⟨i + 1, by omega, SLx, R.cong (fun j _ => colT_end), by omega⟩
  · obtain rfl : n = i := by omega
    repeat (first | refine S0 ?_ | refine S1 ?_ | refine S2 ?_ | refine S3 ?_ | refine S4 ?_ | refine S5 ?_ | refine S6 ?_ | refine S7 ?_ | refine S8 ?_ | refine S10 ?_ | refine S11 ?_ | refine S13 ?_ | refine S15 ?_ | refine S16 ?_ | refine S19 ?_ | refine S20 ?_ | refine S21 ?_ | refine S22 ?_ | refine S23 ?_ | refine S24 ?_ | refine S25 ?_ | refine S26 ?_ | refine S27 ?_ | refine S79 ?_)
    refine ⟨.inr rfl, ?_⟩
    rw [show prodL A B n = matT (colT A B n n 0) n from List.map_congr_left fun r hr => List.map_congr_left fun c _ => (if_pos (.inl (List.mem_range.1 hr))).symm]
    exact frzM R
end Go.Proofs.Ytenoiklocdoemaa
