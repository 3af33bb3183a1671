/- timbref1.Parts. No condition of its own. -/
import Derived.Test.YtgjfpmjllpgadaaGLinkPartsAX
import Derived.Test.YtgjfpmjllpgadaaGLinkPartsBB
import Derived.Test.YtgjfpmjllpgadaaGLinkPartsBF
import Derived.Test.YtgjfpmjllpgadaaGLinkPartsBH
import Derived.Test.YtgjfpmjllpgadaaGLinkPartsBL
set_option linter.unusedVariables false
set_option linter.unusedSimpArgs false
namespace Go.Proofs.Ytgjfpmjllpgadaa
open Go.RowKit

theorem parK_len (r : Nat → Nat) (k : Nat) : (parK r k).length = (fstK r k).length := by simp [parK]
theorem parK_get {r : Nat → Nat} {k j : Nat} (h : j < (fstK r k).length) : (parK r k).getD j [] = clsK r k ((fstK r k).getD j 0) := by simp [parK, List.getD, h]
theorem fst_mem {r : Nat → Nat} {k j : Nat} (h : j < (fstK r k).length) : (fstK r k).getD j 0 ∈ fstK r k := by
  rw [show (fstK r k).getD j 0 = (fstK r k)[j] by simp [List.getD, h]]; exact List.getElem_mem h
theorem clsK_len (r : Nat → Nat) (k i : Nat) : (clsK r k i).length ≤ k := by
  unfold clsK
  rw [List.length_map]
  exact Nat.le_trans (List.length_filter_le _ _) (by simp)
theorem fstK_len (r : Nat → Nat) (k : Nat) : (fstK r k).length ≤ k := Nat.le_trans (List.length_filter_le _ _) (by simp)
set_option maxHeartbeats 16000000 in
set_option maxRecDepth 100000 in
theorem parts_s {N : Nat} {w : List Int} (hN : 1 ≤ N) (hw : Wd N w) : SC Try.prog 48 [pint N, pli w] (plls (parK (nam (eAt w w.length) N) N)) := by
  have hN6 := hw.n9
  have kp := points_o N (by omega)
  have ke := ends_s hN hw
  have hf : ∀ s, s < N → eAt w w.length s < N := hw.e_lt w.length (Nat.le_refl _)
  generalize eAt w w.length = f at *
  refine SC.go { ss := [50], mt := [38, 39] } tok mixed Try.func48 rfl rfl Try.ntmps48 rfl rfl (by kernel_rfl) ?_
  first | simp only [updS] | simp only [updL, Nat.reduceAdd]
  repeat (first | refine S0 ?_ | refine S1 ?_ | refine S2 ?_ | refine S3 ?_ | refine S4 ?_ | refine S5 ?_ | refine S6 ?_ | refine S7 ?_ | refine S8 ?_ | refine S10 ?_ | refine S11 ?_ | refine S13 ?_ | refine S15 ?_ | refine S16 ?_ | refine S19 ?_ | refine S20 ?_ | refine S21 ?_ | refine S22 ?_ | refine S23 ?_ | refine S25 ?_ | refine S26 ?_ | refine S27 ?_ | refine S46 ?_ | refine S49 ?_ | refine S50 ?_ | refine S56 ?_ | refine S65 ?_ | refine S68 ?_)
  refine Scallo (args := [pint N]) kp ?_
  repeat (first | refine S0 ?_ | refine S1 ?_ | refine S2 ?_ | refine S3 ?_ | refine S4 ?_ | refine S5 ?_ | refine S6 ?_ | refine S7 ?_ | refine S8 ?_ | refine S10 ?_ | refine S11 ?_ | refine S13 ?_ | refine S15 ?_ | refine S16 ?_ | refine S19 ?_ | refine S20 ?_ | refine S21 ?_ | refine S22 ?_ | refine S23 ?_ | refine S25 ?_ | refine S26 ?_ | refine S27 ?_ | refine S46 ?_ | refine S49 ?_ | refine S50 ?_ | refine S56 ?_ | refine S65 ?_ | refine S68 ?_)
  refine Scall (args := [pint N, pli w]) ke ?_
  have hl := tab_len N f
  repeat (first | refine S0 ?_ | refine S1 ?_ | refine S2 ?_ | refine S3 ?_ | refine S4 ?_ | refine S5 ?_ | refine S6 ?_ | refine S7 ?_ | refine S8 ?_ | refine S10 ?_ | refine S11 ?_ | refine S13 ?_ | refine S15 ?_ | refine S16 ?_ | refine S19 ?_ | refine S20 ?_ | refine S21 ?_ | refine S22 ?_ | refine S23 ?_ | refine S25 ?_ | refine S26 ?_ | refine S27 ?_ | refine S46 ?_ | refine S49 ?_ | refine S50 ?_ | refine S56 ?_ | refine S65 ?_ | refine S68 ?_)
  refine CW.loopS (fun i : Nat × List Int => i.1 ≤ N ∧ Uf i.2 N (joinA id (prs f i.1))) (fun i => [(0, pint N), (4, .lst true 0 0 []), (5, .ptr 3 0), (15, pli (tabN N f)), (16, pint (tabN N f).length), (17, pint i.1)])
    (fun i hp => hp.blk 0 = some (ints i.2) ∧ hp.blk 3 = some [.ref 0 0 1 N] ∧ 2 ≤ hp.next) (fun i => N - i.1) (0, tabN N id) ⟨⟨Nat.zero_le _, uf_start N⟩, SLx, HBx, HBx, (by first | omega | (simp only [HP.tokF, HP.tokT, HP.next_add, HP.next_set, HP.next_kill, HP.next_H0, HP.next_addS, HP.next_setS, HP.next_killS, HP.next_put, HP.next_bump, HP.next_putS]; omega))⟩ ?_
  rintro ⟨i, js⟩ t hp ⟨hi, hU⟩ ⟨hB0, hB3, hnx⟩
  simp only at hi hU hB0 hB3
  first | simp only [updS] | simp only [updL, Nat.reduceAdd]
  by_cases hi2 : i < N
  · have hfi : (tabN N f).getD i 0 = (f i : Int) := tabN_get hi2
    have hj := join_e hU (by omega) hi2 (hf i hi2) hB0
    repeat (first | refine S0 ?_ | refine S1 ?_ | refine S2 ?_ | refine S3 ?_ | refine S4 ?_ | refine S5 ?_ | refine S6 ?_ | refine S7 ?_ | refine S8 ?_ | refine S10 ?_ | refine S11 ?_ | refine S13 ?_ | refine S15 ?_ | refine S16 ?_ | refine S19 ?_ | refine S20 ?_ | refine S21 ?_ | refine S22 ?_ | refine S23 ?_ | refine S25 ?_ | refine S26 ?_ | refine S27 ?_ | refine S46 ?_ | refine S49 ?_ | refine S50 ?_ | refine S56 ?_ | refine S65 ?_ | refine S68 ?_)
    rw [hfi]
    refine Scalle (args := [.ref 0 0 1 N, pint i, pint (f i)]) hj ?_
    rintro v h2 ⟨hb2, hF⟩
    have hU2 := hU.join hi2 (hf i hi2)
    have e : joinA id (prs f (i + 1)) = joinR (joinA id (prs f i)) i (f i) := by rw [prs_succ, joinA_snoc]
    have hB3' : h2.blk 3 = some [.ref 0 0 1 N] := by rw [hF.blk 3 (by omega) (by simp)]; exact hB3
    have hnx' := hF.next
    repeat (first | refine S0 ?_ | refine S1 ?_ | refine S2 ?_ | refine S3 ?_ | refine S4 ?_ | refine S5 ?_ | refine S6 ?_ | refine S7 ?_ | refine S8 ?_ | refine S10 ?_ | refine S11 ?_ | refine S13 ?_ | refine S15 ?_ | refine S16 ?_ | refine S19 ?_ | refine S20 ?_ | refine S21 ?_ | refine S22 ?_ | refine S23 ?_ | refine S25 ?_ | refine S26 ?_ | refine S27 ?_ | refine S46 ?_ | refine S49 ?_ | refine S50 ?_ | refine S56 ?_ | refine S65 ?_ | refine S68 ?_)
    exact ⟨(i + 1, _), ⟨hi2, by simp only; rw [e]; exact hU2⟩, SLx, ⟨hb2, hB3', (by first | omega | (simp only [HP.tokF, HP.tokT, HP.next_add, HP.next_set, HP.next_kill, HP.next_H0, HP.next_addS, HP.next_setS, HP.next_killS, HP.next_put, HP.next_bump, HP.next_putS]; omega))⟩, by simp only; omega⟩
  · obtain rfl : i = N := by omega
    rw [show joinA id (prs f i) = nam f i from rfl] at hU
    generalize nam f i = r at *
    repeat (first | refine S0 ?_ | refine S1 ?_ | refine S2 ?_ | refine S3 ?_ | refine S4 ?_ | refine S5 ?_ | refine S6 ?_ | refine S7 ?_ | refine S8 ?_ | refine S10 ?_ | refine S11 ?_ | refine S13 ?_ | refine S15 ?_ | refine S16 ?_ | refine S19 ?_ | refine S20 ?_ | refine S21 ?_ | refine S22 ?_ | refine S23 ?_ | refine S25 ?_ | refine S26 ?_ | refine S27 ?_ | refine S46 ?_ | refine S49 ?_ | refine S50 ?_ | refine S56 ?_ | refine S65 ?_ | refine S68 ?_)
    refine CW.freezeC 3 0 (tk := 0) hB3 rfl hB0 (by rw [ints_length, hU.len]; omega) (by decide) (r := pli js) (by
      have := hU.len
      rw [List.drop_zero, Nat.mul_one, ints_take, ← this, List.take_length]; rfl) ?_
    refine CW.freezeP 5 (tk := 3) rfl HBx ?_
    refine CW.own 8 1 rfl ?_
    refine CW.loopS (fun k : Nat × Nat × (Nat → Nat) => k.1 ≤ i) (fun k => [(5, .lptr [pli js]), (8, .ref k.2.1 0 1 (fstK r k.1).length), (27, pint i), (28, pint k.1)])
      (fun k hp => RowsI (fstK r k.1).length (fstK r k.1).length k.2.1 k.2.2 (fun j => (parK r k.1).getD j []) hp) (fun k => i - k.1) (0, 2 * hp.next, fun _ => 0) ⟨Nat.zero_le _, SLx, RowsI.start (by exact HBx) (by simp only; omega) (by first | omega | (simp only [HP.tokF, HP.tokT, HP.next_add, HP.next_set, HP.next_kill, HP.next_H0, HP.next_addS, HP.next_setS, HP.next_killS, HP.next_put, HP.next_bump, HP.next_putS]; omega))⟩ ?_
    clear hB0 hB3 hnx
    clear hp t
    rintro ⟨k, T, tk⟩ t hp hk R
    simp only at hk R
    first | simp only [updS] | simp only [updL, Nat.reduceAdd]
    by_cases hk2 : k < i
    · iterate 18 (first | refine S0 ?_ | refine S1 ?_ | refine S2 ?_ | refine S3 ?_ | refine S4 ?_ | refine S5 ?_ | refine S6 ?_ | refine S7 ?_ | refine S8 ?_ | refine S10 ?_ | refine S11 ?_ | refine S13 ?_ | refine S15 ?_ | refine S16 ?_ | refine S19 ?_ | refine S20 ?_ | refine S21 ?_ | refine S22 ?_ | refine S23 ?_ | refine S25 ?_ | refine S26 ?_ | refine S27 ?_ | refine S46 ?_ | refine S49 ?_ | refine S50 ?_ | refine S56 ?_ | refine S65 ?_ | refine S68 ?_)
      refine CW.freezeP 9 (tk := hp.tok true) rfl HBx ?_
      obtain ⟨X, hX⟩ : ∃ X, X = ((hp.add true [PV.sc (.int .i64 0)]).set (hp.tok true) [pint k]).kill (hp.tok true) := ⟨_, rfl⟩
      have RX : RowsI (fstK r k).length (fstK r k).length T tk (fun j => (parK r k).getD j []) X := R.keep (by rw [hX]; show _ ≤ hp.next + 1; omega) (fun t ht => by
        have h2 : t ≠ hp.tok true := by
          rw [HP.tokT]
          rcases ht with rfl | ⟨j, hj, rfl⟩
          · have := R.ltT; omega
          · have := R.lt j hj; omega
        rw [hX]
        exact (HP.kill_other _ h2).trans ((HP.set_other _ _ h2).trans (HP.add_other _ _ _ h2)))
      rw [show (pint k : PV) = .sc (.int .i64 (k : Int)) from rfl] at hX
      rw [← hX]
      clear hX R
      have hlK := fstK_len r k
      have hix := ixown_e (f := 93) (cap := [.lptr [pli js], .lptr [pint k]]) (fun j => decide (r ((fstK r k).getD j 0) = r k)) (by omega) RX (fun j hj h' R' => by
        have hm := fst_mem hj
        have hh := clsK_head hm
        have hlt := (mem_fstK.1 hm).1
        rw [← parK_get hj] at hh
        exact parts1_e hU (by omega) hk2 (by omega) hh.2 hh.1 (R'.row j hj))
      repeat (first | refine S0 ?_ | refine S1 ?_ | refine S2 ?_ | refine S3 ?_ | refine S4 ?_ | refine S5 ?_ | refine S6 ?_ | refine S7 ?_ | refine S8 ?_ | refine S10 ?_ | refine S11 ?_ | refine S13 ?_ | refine S15 ?_ | refine S16 ?_ | refine S19 ?_ | refine S20 ?_ | refine S21 ?_ | refine S22 ?_ | refine S23 ?_ | refine S25 ?_ | refine S26 ?_ | refine S27 ?_ | refine S46 ?_ | refine S49 ?_ | refine S50 ?_ | refine S56 ?_ | refine S65 ?_ | refine S68 ?_)
      refine Scalle (args := [.ref T 0 1 (fstK r k).length, .clo 93 [.lptr [pli js], .lptr [pint k]]]) hix ?_
      rintro v h' ⟨hcase, hF⟩
      have R2 := RX.fr hF (by simp) (by simp)
      clear hix RX hF
      rcases hcase with ⟨rfl, hno⟩ | ⟨p, hp1, rfl, hp2, hp3⟩
      · have hnew : ∀ j, j < k → r j ≠ r k := fun j hj e => by
          obtain ⟨a, ha, hra, _⟩ := fstK_ex r hj
          obtain ⟨q, hq, rfl⟩ := List.getElem_of_mem ha
          have := hno q hq
          rw [show (fstK r k).getD q 0 = (fstK r k)[q] by simp [List.getD, hq]] at this
          rw [decide_eq_false_iff_not] at this
          exact this (by rw [hra, e])
        have b0 := R2.out
        have hlT := R2.ltT
        have hpn := parK_new (r := r) (k := k) hnew
        have hfn : (fstK r (k + 1)).length = (fstK r k).length + 1 := by rw [← parK_len, hpn, List.length_append, parK_len]; rfl
        have hrow : ∀ j, j < (fstK r k).length + 1 → ovr (fun j => (parK r k).getD j []) (fstK r k).length [(k : Int)] j = (parK r (k + 1)).getD j [] := fun j hj => by
          rw [hpn]
          have hpl := parK_len r k
          by_cases e : j = (fstK r k).length
          · rw [e, ovr_same]; simp [List.getD, ← hpl]
          · rw [ovr_ne _ _ e]
            simp only [List.getD]
            rw [List.getElem?_append_left (by omega)]
        obtain ⟨K, hK⟩ : ∃ K, K = (fstK r k).length := ⟨_, rfl⟩
        obtain ⟨rows, hrows⟩ : ∃ rows, rows = (fun j => (parK r k).getD j []) := ⟨_, rfl⟩
        rw [← hK] at R2 b0 hfn hrow hlK
        rw [← hrows] at R2 b0 hrow
        repeat (first | refine S0 ?_ | refine S1 ?_ | refine S2 ?_ | refine S3 ?_ | refine S4 ?_ | refine S5 ?_ | refine S6 ?_ | refine S7 ?_ | refine S8 ?_ | refine S10 ?_ | refine S11 ?_ | refine S13 ?_ | refine S15 ?_ | refine S16 ?_ | refine S19 ?_ | refine S20 ?_ | refine S21 ?_ | refine S22 ?_ | refine S23 ?_ | refine S25 ?_ | refine S26 ?_ | refine S27 ?_ | refine S46 ?_ | refine S49 ?_ | refine S50 ?_ | refine S56 ?_ | refine S65 ?_ | refine S68 ?_)
        rw [← hK]
        have n1 : h'.tok false = 2 * h'.next := HP.tokF _
        have n2 : (h'.add false [.sc (.int .i64 (k : Int))]).tok false = 2 * (h'.next + 1) := HP.tokF _
        refine AW.app (m := K) (m2 := 1) (off := 0) (cs2 := [.ref (h'.tok false) 0 1 1]) (cs := outI K tk rows K) (r := outI (K + 1) (ovr tk K (h'.tok false)) (ovr rows K [(k : Int)]) (K + 1)) (q := K + 1) EVx (by first | exact Or.inl rfl | exact Or.inr ⟨rfl, HP.tok_even _⟩ | exact Or.inr (Or.inl ⟨rfl, HP.tok_even _⟩) | exact Or.inr (Or.inr ⟨rfl, HP.tok_odd _⟩) | exact Or.inr (Or.inl rfl) | exact Or.inr (Or.inr (Or.inl rfl)) | exact Or.inr (Or.inr (Or.inr (Or.inl ⟨rfl, HP.tok_odd _⟩))) | exact Or.inr (Or.inr (Or.inr (Or.inr ⟨rfl, HP.tok_even _⟩))) | exact Or.inr (Or.inr (Or.inr (Or.inr ⟨rfl, by assumption⟩))) | exact Or.inr ⟨rfl, by assumption⟩ | exact Or.inr (Or.inl ⟨rfl, by assumption⟩) | exact Or.inr (Or.inr ⟨rfl, by assumption⟩) | exact Or.inr (Or.inr (Or.inr (Or.inl ⟨rfl, by assumption⟩))) | exact Or.inr (Or.inr (Or.inl ⟨rfl, HP.tok_odd _⟩)) | exact Or.inr (Or.inr (Or.inl ⟨rfl, by assumption⟩)) | exact Or.inr (Or.inr (Or.inr rfl)) | exact Or.inr (Or.inr rfl) | exact Or.inr rfl) rfl ((HP.add_other _ _ _ (by omega)).trans ((HP.add_other _ _ _ (by omega)).trans b0)) (by simp only [evA, upd, Nat.reduceEqDiff, ↓reduceIte]; exact ⟨rfl, rfl, _, HP.add_same _ _ _, by simp, rfl⟩) (by rw [outI_len]; omega) (by intro p hp; simp only [List.mem_singleton] at hp; subst hp; rfl) (by first | omega | (simp only [ints_length, bls_length, List.length_map, List.length_append, List.length_set, List.length_cons, List.length_nil, Int.toNat_natCast]; omega)) (by rw [List.drop_zero, Nat.mul_one, List.take_of_length_le (by rw [outI_len]; exact Nat.le_refl _)]; exact outI_app (r := [(k : Int)])) rfl ?_
        repeat (first | refine S0 ?_ | refine S1 ?_ | refine S2 ?_ | refine S3 ?_ | refine S4 ?_ | refine S5 ?_ | refine S6 ?_ | refine S7 ?_ | refine S8 ?_ | refine S10 ?_ | refine S11 ?_ | refine S13 ?_ | refine S15 ?_ | refine S16 ?_ | refine S19 ?_ | refine S20 ?_ | refine S21 ?_ | refine S22 ?_ | refine S23 ?_ | refine S25 ?_ | refine S26 ?_ | refine S27 ?_ | refine S46 ?_ | refine S49 ?_ | refine S50 ?_ | refine S56 ?_ | refine S65 ?_ | refine S68 ?_)
        have hev : h'.tok false % 2 = 0 := HP.tok_even _
        have RY : RowsI (K + 1) (K + 1) (2 * (h'.next + 2)) (ovr tk K (h'.tok false)) (ovr rows K [(k : Int)]) ((((h'.add false [PV.sc (.int .i64 (k : Int))]).add false [.ref (h'.tok false) 0 1 1]).kill T).add false (outI (K + 1) (ovr tk K (h'.tok false)) (ovr rows K [(k : Int)]) (K + 1))) :=
          R2.put (fun j hj e => by omega) hev (by omega) (by show _ < 2 * (h'.next + 3); omega) (by show _ ≤ h'.next + 3; omega) (by omega) (by show _ < 2 * (h'.next + 3); omega) ⟨by omega, fun j hj => by have := R2.lt j hj; omega⟩ (HP.add_same _ _ _)
            (fun j hj _ => by
              have q1 := R2.lt j hj
              have q2 := R2.ne j hj
              exact (HP.add_other _ _ _ (by show _ ≠ 2 * (h'.next + 2); omega)).trans ((HP.kill_other _ q2).trans ((HP.add_other _ _ _ (by omega)).trans (HP.add_other _ _ _ (by omega)))))
            ((HP.add_other _ _ _ (by show _ ≠ 2 * (h'.next + 2); omega)).trans ((HP.kill_other _ (by omega)).trans ((HP.add_other _ _ _ (by omega)).trans (HP.add_same _ _ _))))
        refine ⟨(k + 1, 2 * (h'.next + 2), ovr tk K (h'.tok false)), hk2, ?_, ?_, by simp only; omega⟩
        · simp only
          rw [hfn]
          exact SLx
        · simp only
          rw [hfn]
          exact RY.cong (fun j hj => hrow j hj)
      · have b0 := R2.out
        have hrw := R2.row p hp1
        have hne := R2.ne p hp1
        have hlT := R2.ltT
        have hlt := R2.lt p hp1
        have hcl : ((parK r k).getD p []).length ≤ k := by rw [parK_get hp1]; exact clsK_len _ _ _
        repeat (first | refine S0 ?_ | refine S1 ?_ | refine S2 ?_ | refine S3 ?_ | refine S4 ?_ | refine S5 ?_ | refine S6 ?_ | refine S7 ?_ | refine S8 ?_ | refine S10 ?_ | refine S11 ?_ | refine S13 ?_ | refine S15 ?_ | refine S16 ?_ | refine S19 ?_ | refine S20 ?_ | refine S21 ?_ | refine S22 ?_ | refine S23 ?_ | refine S25 ?_ | refine S26 ?_ | refine S27 ?_ | refine S46 ?_ | refine S49 ?_ | refine S50 ?_ | refine S56 ?_ | refine S65 ?_ | refine S68 ?_)
        rw [show 0 + (p : Int).toNat * 1 = p by simp]
        refine AW.ldm EVx (by first | exact Or.inl rfl | exact Or.inr ⟨rfl, HP.tok_even _⟩ | exact Or.inr (Or.inl ⟨rfl, HP.tok_even _⟩) | exact Or.inr (Or.inr ⟨rfl, HP.tok_odd _⟩) | exact Or.inr (Or.inl rfl) | exact Or.inr (Or.inr (Or.inl rfl)) | exact Or.inr (Or.inr (Or.inr (Or.inl ⟨rfl, HP.tok_odd _⟩))) | exact Or.inr (Or.inr (Or.inr (Or.inr ⟨rfl, HP.tok_even _⟩))) | exact Or.inr (Or.inr (Or.inr (Or.inr ⟨rfl, by assumption⟩))) | exact Or.inr ⟨rfl, by assumption⟩ | exact Or.inr (Or.inl ⟨rfl, by assumption⟩) | exact Or.inr (Or.inr ⟨rfl, by assumption⟩) | exact Or.inr (Or.inr (Or.inr (Or.inl ⟨rfl, by assumption⟩))) | exact Or.inr (Or.inr (Or.inl ⟨rfl, HP.tok_odd _⟩)) | exact Or.inr (Or.inr (Or.inl ⟨rfl, by assumption⟩)) | exact Or.inr (Or.inr (Or.inr rfl)) | exact Or.inr (Or.inr rfl) | exact Or.inr rfl) rfl b0 (outI_get hp1 hp1) ?_
        have hev := R2.ev p hp1
        have hevT := R2.evT
        have htok : h'.tok false = 2 * h'.next := HP.tokF _
        have hpo := parK_old hp1 (of_decide_eq_true hp2)
        have hfn : (fstK r (k + 1)).length = (fstK r k).length := by rw [← parK_len, hpo, List.length_set, parK_len]
        obtain ⟨c, hc⟩ : ∃ c, c = (parK r k).getD p [] := ⟨_, rfl⟩
        have hrow : ∀ j, j < (fstK r k).length → ovr (fun j => (parK r k).getD j []) p (c ++ [(k : Int)]) j = (parK r (k + 1)).getD j [] := fun j hj => by
          rw [hpo, ← hc]
          have hpl := parK_len r k
          by_cases e : j = p
          · rw [e, ovr_same]; simp [List.getD, hpl, hp1]
          · rw [ovr_ne _ _ e]
            simp only [List.getD]
            rw [List.getElem?_set_ne (fun e2 => e e2.symm)]
        have hrw2 : h'.blk (tk p) = some (ints c) := by rw [hc]; exact hrw
        rw [← hc] at hcl
        clear hpo hrw
        rw [← hc]
        iterate 2 (first | refine S0 ?_ | refine S1 ?_ | refine S2 ?_ | refine S3 ?_ | refine S4 ?_ | refine S5 ?_ | refine S6 ?_ | refine S7 ?_ | refine S8 ?_ | refine S10 ?_ | refine S11 ?_ | refine S13 ?_ | refine S15 ?_ | refine S16 ?_ | refine S19 ?_ | refine S20 ?_ | refine S21 ?_ | refine S22 ?_ | refine S23 ?_ | refine S25 ?_ | refine S26 ?_ | refine S27 ?_ | refine S46 ?_ | refine S49 ?_ | refine S50 ?_ | refine S56 ?_ | refine S65 ?_ | refine S68 ?_)
        refine AW.app (off := 0) (r := ints (c ++ [(k : Int)])) (q := (c ++ [(k : Int)]).length) EVx (by first | exact Or.inl rfl | exact Or.inr ⟨rfl, HP.tok_even _⟩ | exact Or.inr (Or.inl ⟨rfl, HP.tok_even _⟩) | exact Or.inr (Or.inr ⟨rfl, HP.tok_odd _⟩) | exact Or.inr (Or.inl rfl) | exact Or.inr (Or.inr (Or.inl rfl)) | exact Or.inr (Or.inr (Or.inr (Or.inl ⟨rfl, HP.tok_odd _⟩))) | exact Or.inr (Or.inr (Or.inr (Or.inr ⟨rfl, HP.tok_even _⟩))) | exact Or.inr (Or.inr (Or.inr (Or.inr ⟨rfl, by assumption⟩))) | exact Or.inr ⟨rfl, by assumption⟩ | exact Or.inr (Or.inl ⟨rfl, by assumption⟩) | exact Or.inr (Or.inr ⟨rfl, by assumption⟩) | exact Or.inr (Or.inr (Or.inr (Or.inl ⟨rfl, by assumption⟩))) | exact Or.inr (Or.inr (Or.inl ⟨rfl, HP.tok_odd _⟩)) | exact Or.inr (Or.inr (Or.inl ⟨rfl, by assumption⟩)) | exact Or.inr (Or.inr (Or.inr rfl)) | exact Or.inr (Or.inr rfl) | exact Or.inr rfl) rfl hrw2 (by first | exact ⟨rfl, rfl, .inr rfl⟩ | exact ⟨rfl, rfl, .inl rfl⟩ | (simp only [evA, upd, putA, Nat.reduceEqDiff, ↓reduceIte]; first | exact ⟨rfl, rfl, .inr rfl⟩ | exact ⟨rfl, rfl, .inl rfl⟩)) (by simp) (by first | exact ints_ones _ | (intro p hp; simp only [List.mem_singleton] at hp; subst hp; rfl) | (intro p hp; simp at hp; subst hp; rfl)) (by first | omega | (simp only [ints_length, bls_length, List.length_map, List.length_append, List.length_set, List.length_cons, List.length_nil, Int.toNat_natCast]; omega)) (by rw [List.drop_zero, Nat.mul_one, List.take_of_length_le (by simp)]; exact ints_append c [(k : Int)]) (by simp) ?_
        (first | refine S0 ?_ | refine S1 ?_ | refine S2 ?_ | refine S3 ?_ | refine S4 ?_ | refine S5 ?_ | refine S6 ?_ | refine S7 ?_ | refine S8 ?_ | refine S10 ?_ | refine S11 ?_ | refine S13 ?_ | refine S15 ?_ | refine S16 ?_ | refine S19 ?_ | refine S20 ?_ | refine S21 ?_ | refine S22 ?_ | refine S23 ?_ | refine S25 ?_ | refine S26 ?_ | refine S27 ?_ | refine S46 ?_ | refine S49 ?_ | refine S50 ?_ | refine S56 ?_ | refine S65 ?_ | refine S68 ?_)
        rw [show 0 + (p : Int).toNat * 1 = p by simp]
        refine AW.stR (r := outI (fstK r k).length (ovr tk p (h'.tok false)) (ovr (fun j => (parK r k).getD j []) p (c ++ [(k : Int)])) (fstK r k).length) EVx (by first | exact Or.inl rfl | exact Or.inr ⟨rfl, HP.tok_even _⟩ | exact Or.inr (Or.inl ⟨rfl, HP.tok_even _⟩) | exact Or.inr (Or.inr ⟨rfl, HP.tok_odd _⟩) | exact Or.inr (Or.inl rfl) | exact Or.inr (Or.inr (Or.inl rfl)) | exact Or.inr (Or.inr (Or.inr (Or.inl ⟨rfl, HP.tok_odd _⟩))) | exact Or.inr (Or.inr (Or.inr (Or.inr ⟨rfl, HP.tok_even _⟩))) | exact Or.inr (Or.inr (Or.inr (Or.inr ⟨rfl, by assumption⟩))) | exact Or.inr ⟨rfl, by assumption⟩ | exact Or.inr (Or.inl ⟨rfl, by assumption⟩) | exact Or.inr (Or.inr ⟨rfl, by assumption⟩) | exact Or.inr (Or.inr (Or.inr (Or.inl ⟨rfl, by assumption⟩))) | exact Or.inr (Or.inr (Or.inl ⟨rfl, HP.tok_odd _⟩)) | exact Or.inr (Or.inr (Or.inl ⟨rfl, by assumption⟩)) | exact Or.inr (Or.inr (Or.inr rfl)) | exact Or.inr (Or.inr rfl) | exact Or.inr rfl) EVx rfl ((HP.add_other _ _ _ (by show _ ≠ 2 * h'.next; omega)).trans ((HP.kill_other _ (fun e => hne e.symm)).trans b0)) (by rw [outI_len]; exact hp1) (by first | rfl | (simp only [PV.one, pint, pfr]; done)) (by rw [← outI_move hp1]) ?_
        repeat (first | refine S0 ?_ | refine S1 ?_ | refine S2 ?_ | refine S3 ?_ | refine S4 ?_ | refine S5 ?_ | refine S6 ?_ | refine S7 ?_ | refine S8 ?_ | refine S10 ?_ | refine S11 ?_ | refine S13 ?_ | refine S15 ?_ | refine S16 ?_ | refine S19 ?_ | refine S20 ?_ | refine S21 ?_ | refine S22 ?_ | refine S23 ?_ | refine S25 ?_ | refine S26 ?_ | refine S27 ?_ | refine S46 ?_ | refine S49 ?_ | refine S50 ?_ | refine S56 ?_ | refine S65 ?_ | refine S68 ?_)
        refine ⟨(k + 1, T, ovr tk p (h'.tok false)), hk2, ?_, ?_, by simp only; omega⟩
        · simp only
          rw [hfn]
          exact SLx
        · simp only
          rw [hfn]
          refine (R2.put (i := p) (T' := h'.tok false) (T2 := T) (r := c ++ [(k : Int)]) (fun j hj e => hj) (HP.tok_even _) (by omega) (by rw [htok]; show _ < 2 * (h'.next + 1); omega) (by show _ ≤ h'.next + 1; omega) hevT (by show _ < 2 * (h'.next + 1); omega) ⟨by omega, fun j hj => R2.ne j hj⟩ (HP.set_same _ _ _) (fun j hj e => ?_) ?_).cong (fun j hj => hrow j hj)
          · have q1 := R2.lt j hj
            have q2 := R2.ne j hj
            exact (HP.set_other _ _ q2).trans ((HP.add_other _ _ _ (by show _ ≠ 2 * h'.next; omega)).trans (HP.kill_other _ (fun e2 => e (R2.inj j p hj hp1 e2))))
          · exact (HP.set_other _ _ (by omega)).trans (HP.add_same _ _ _)
    · obtain rfl : k = i := by omega
      have hpl := parK_len r k
      refine CW.frzR R (fun h' hb' hf' => ?_)
      have e : ((List.range (fstK r k).length).map fun j => (parK r k).getD j []) = parK r k := by
        rw [← hpl]
        exact List.ext_getElem (by simp) (fun j h1 h2 => by simp [List.getD, h2])
      rw [e] at hb'
      refine CW.freeze 8 (tk := T) (off := 0) (sz := 1) (m := (fstK r k).length) (v := plls (parK r k)) rfl hb' (by simp [hpl]) (by
        unfold plls
        rw [List.drop_zero, Nat.mul_one, List.take_of_length_le (by simp [hpl]), hpl]) ?_
      repeat (first | refine S0 ?_ | refine S1 ?_ | refine S2 ?_ | refine S3 ?_ | refine S4 ?_ | refine S5 ?_ | refine S6 ?_ | refine S7 ?_ | refine S8 ?_ | refine S10 ?_ | refine S11 ?_ | refine S13 ?_ | refine S15 ?_ | refine S16 ?_ | refine S19 ?_ | refine S20 ?_ | refine S21 ?_ | refine S22 ?_ | refine S23 ?_ | refine S25 ?_ | refine S26 ?_ | refine S27 ?_ | refine S46 ?_ | refine S49 ?_ | refine S50 ?_ | refine S56 ?_ | refine S65 ?_ | refine S68 ?_)
      exact ⟨.inr rfl, .cl (plls_cl _)⟩
end Go.Proofs.Ytgjfpmjllpgadaa
