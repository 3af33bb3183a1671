/- timbref1.Linked. No condition of its own. -/
import Derived.Test.YtgjfpmjllpgadaaGLinkPartsBU
import Derived.Test.YtgjfpmjllpgadaaGLinkPartsBV
set_option linter.unusedVariables false
set_option linter.unusedSimpArgs false
namespace Go.Proofs.Ytgjfpmjllpgadaa
open Go.RowKit

theorem Wd.take {n : Nat} {w : List Int} (h : Wd n w) {j : Nat} (hj : j ≤ w.length) : Wd n (w.take j) :=
  ⟨h.n9, by rw [List.length_take]; have := h.len; omega, fun k hk => by
    rw [List.length_take] at hk
    have e : (w.take j).getD k 0 = w.getD k 0 := by
      simp only [List.getD]
      rw [List.getElem?_take, if_pos (by omega)]
    rw [e]
    exact h.lt k (by omega)⟩
theorem eAt_tk {w : List Int} {i : Nat} (hi : i ≤ w.length) : ∀ {k : Nat}, k ≤ i → ∀ s, eAt (w.take i) k s = eAt w k s
  | 0, _, _ => rfl
  | k + 1, hk, s => by
    simp only [eAt]
    rw [eAt_tk hi (by omega), show (w.take i).getD k 0 = w.getD k 0 by
      simp only [List.getD]
      rw [List.getElem?_take, if_pos (by omega)]]
theorem crS_no {of : Nat → Nat} {w : List Int} {j a b p q : Nat} (hA : crA of w j = a) (hB : crB of w j = b) (h : ¬ ((p = a ∧ q = b) ∨ (p = b ∧ q = a))) : crS of w (j + 1) p q = crS of w j p q := by
  simp only [crS, hA, hB]
  rw [if_neg h]; omega
theorem crS_yes {of : Nat → Nat} {w : List Int} {j a b p q : Nat} (hA : crA of w j = a) (hB : crB of w j = b) (h : (p = a ∧ q = b) ∨ (p = b ∧ q = a)) : crS of w (j + 1) p q = crS of w j p q + sgnX (w.getD j 0) := by
  simp only [crS, hA, hB]
  rw [if_pos h]
theorem crR_no {of : Nat → Nat} {w : List Int} {j a b p q : Nat} (hA : crA of w j = a) (hB : crB of w j = b) (h : ¬ ((p = a ∧ q = b) ∨ (p = b ∧ q = a))) : crR of w (j + 1) p q = crR of w j p q := by
  unfold crR
  rw [crS_no hA hB h]
theorem crR_row_a {of : Nat → Nat} {w : List Int} {j a b k : Nat} (hA : crA of w j = a) (hB : crB of w j = b) (hb : b < k) (hne : a ≠ b) : (rowF k (crR of w j a)).set b (crR of w j a b + sgnX (w.getD j 0)) = rowF k (crR of w (j + 1) a) := by
  refine rowF_set hb ?_ (fun q _ hq => crR_no hA hB (by omega))
  unfold crR
  rw [if_neg hne, if_neg hne, crS_yes hA hB (.inl ⟨rfl, rfl⟩)]
theorem crR_row_b {of : Nat → Nat} {w : List Int} {j a b k : Nat} (hA : crA of w j = a) (hB : crB of w j = b) (ha : a < k) (hne : a ≠ b) : (rowF k (crR of w j b)).set a (crR of w j b a + sgnX (w.getD j 0)) = rowF k (crR of w (j + 1) b) := by
  refine rowF_set ha ?_ (fun q _ hq => crR_no hA hB (by omega))
  unfold crR
  rw [if_neg (fun e => hne e.symm), if_neg (fun e => hne e.symm), crS_yes hA hB (.inr ⟨rfl, rfl⟩)]
theorem crR_row_o {of : Nat → Nat} {w : List Int} {j a b k p : Nat} (hA : crA of w j = a) (hB : crB of w j = b) (h1 : p ≠ a) (h2 : p ≠ b) : rowF k (crR of w j p) = rowF k (crR of w (j + 1) p) :=
  rowF_ext (fun q _ => (crR_no hA hB (by omega)).symm)
theorem crR_same {of : Nat → Nat} {w : List Int} {j a k : Nat} (hA : crA of w j = a) (hB : crB of w j = a) (ha : a < k) : ((rowF k (crR of w j a)).set a (crR of w j a a + sgnX (w.getD j 0))).set a (crR of w j a a + sgnX (w.getD j 0) + sgnX (w.getD j 0)) = rowF k (crR of w (j + 1) a) := by
  rw [List.set_set]
  refine rowF_set ha ?_ (fun q _ hq => crR_no hA hB (by omega))
  unfold crR
  rw [if_pos rfl, if_pos rfl, crS_yes hA hB (.inl ⟨rfl, rfl⟩)]
  omega
/-- the rows while they are halved: those before p, and of row p what lies before q -/
def hl2 (of : Nat → Nat) (w : List Int) (p q r c : Nat) : Int := if r < p ∨ (r = p ∧ c < q) then lnk of w r c else crR of w w.length r c
theorem hl2_next {of : Nat → Nat} {w : List Int} {p k r c : Nat} (hc : c < k) : hl2 of w p k r c = hl2 of w (p + 1) 0 r c := by
  unfold hl2
  by_cases h1 : r < p ∨ (r = p ∧ c < k)
  · rw [if_pos h1, if_pos (by omega)]
  · rw [if_neg h1, if_neg (by omega)]
theorem hl2_row {of : Nat → Nat} {w : List Int} {p q k : Nat} (hq : q < k) : (rowF k (hl2 of w p q p)).set q ((crR of w w.length p q).tdiv 2) = rowF k (hl2 of w p (q + 1) p) := by
  refine rowF_set hq ?_ (fun c _ hc => ?_)
  · unfold hl2
    rw [if_pos (by omega), crR_half]
  · unfold hl2
    by_cases h1 : p < p ∨ (p = p ∧ c < q)
    · rw [if_pos h1, if_pos (by omega)]
    · rw [if_neg h1, if_neg (by omega)]
theorem hl2_oth {of : Nat → Nat} {w : List Int} {p q r c : Nat} (h : r ≠ p) : hl2 of w p q r c = hl2 of w p (q + 1) r c := by
  unfold hl2
  by_cases h1 : r < p ∨ (r = p ∧ c < q)
  · rw [if_pos h1, if_pos (by omega)]
  · rw [if_neg h1, if_neg (by omega)]
set_option maxHeartbeats 16000000 in
set_option maxRecDepth 100000 in
theorem linked_s {N : Nat} {w : List Int} (hN : 1 ≤ N) (hw : Wd N w) : SC Try.prog 49 [pint N, pli w] (plls ((List.range (cmpK (eAt w w.length) N N).length).map fun p => rowF (cmpK (eAt w w.length) N N).length (lnk (ofN (eAt w w.length) N) w p))) := by
  have kp := parts_s hN hw
  have hN6 := hw.n9
  have hwl := hw.len
  have ko := fun x (hx : x < N) => linked1_s (f := eAt w w.length) hN6 hx
  have hln := cmpK_len (eAt w w.length) N N
  have hof : ∀ x, x < N → ofN (eAt w w.length) N x < (cmpK (eAt w w.length) N N).length := fun x hx => by rw [cmp_len]; exact (ofN_spec hx).1
  rw [show parK (nam (eAt w w.length) N) N = cmpK (eAt w w.length) N N from rfl] at kp
  generalize ofN (eAt w w.length) N = of at *
  generalize cmpK (eAt w w.length) N N = ms at *
  obtain ⟨K, hK⟩ : ∃ K, K = ms.length := ⟨_, rfl⟩
  have hmc : (plls ms).cl = true := plls_cl _
  rw [← hK] at hln hof ⊢
  refine SC.go {} tok mixed Try.func49 rfl rfl Try.ntmps49 rfl rfl (by kernel_rfl) ?_
  first | simp only [updS] | simp only [updL, Nat.reduceAdd]
  repeat (first | refine S0 ?_ | refine S1 ?_ | refine S2 ?_ | refine S3 ?_ | refine S4 ?_ | refine S5 ?_ | refine S6 ?_ | refine S7 ?_ | refine S8 ?_ | refine S10 ?_ | refine S11 ?_ | refine S13 ?_ | refine S15 ?_ | refine S16 ?_ | refine S19 ?_ | refine S20 ?_ | refine S21 ?_ | refine S22 ?_ | refine S23 ?_ | refine S24 ?_ | refine S25 ?_ | refine S26 ?_ | refine S27 ?_ | refine S33 ?_ | refine S46 ?_ | refine S56 ?_ | refine S60 ?_ | refine S65 ?_ | refine S68 ?_ | refine S71 ?_ | refine S72 ?_ | refine S75 ?_)
  refine Scall (args := [pint N, pli w]) kp ?_
  iterate 4 (first | refine S0 ?_ | refine S1 ?_ | refine S2 ?_ | refine S3 ?_ | refine S4 ?_ | refine S5 ?_ | refine S6 ?_ | refine S7 ?_ | refine S8 ?_ | refine S10 ?_ | refine S11 ?_ | refine S13 ?_ | refine S15 ?_ | refine S16 ?_ | refine S19 ?_ | refine S20 ?_ | refine S21 ?_ | refine S22 ?_ | refine S23 ?_ | refine S24 ?_ | refine S25 ?_ | refine S26 ?_ | refine S27 ?_ | refine S33 ?_ | refine S46 ?_ | refine S56 ?_ | refine S60 ?_ | refine S65 ?_ | refine S68 ?_ | refine S71 ?_ | refine S72 ?_ | refine S75 ?_)
  refine CW.freezeP 5 (tk := H0.tok true) rfl (HP.set_same _ _ _) ?_
  repeat (first | refine S0 ?_ | refine S1 ?_ | refine S2 ?_ | refine S3 ?_ | refine S4 ?_ | refine S5 ?_ | refine S6 ?_ | refine S7 ?_ | refine S8 ?_ | refine S10 ?_ | refine S11 ?_ | refine S13 ?_ | refine S15 ?_ | refine S16 ?_ | refine S19 ?_ | refine S20 ?_ | refine S21 ?_ | refine S22 ?_ | refine S23 ?_ | refine S24 ?_ | refine S25 ?_ | refine S26 ?_ | refine S27 ?_ | refine S33 ?_ | refine S46 ?_ | refine S56 ?_ | refine S60 ?_ | refine S65 ?_ | refine S68 ?_ | refine S71 ?_ | refine S72 ?_ | refine S75 ?_)
  rw [← hK]
  refine CW.loopS (fun i : Nat × (Nat → Nat) => i.1 ≤ K) (fun i => [(0, pint N), (1, pli w), (5, .lptr [plls ms]), (6, .clo 95 [.lptr [plls ms]]), (7, .ref 2 0 1 K), (24, pint K), (25, pint i.1)])
    (fun i hp => RowsI K i.1 2 i.2 (fun _ => rowF K (fun _ => 0)) hp) (fun i => K - i.1) (0, fun _ => 0) ⟨Nat.zero_le _, SLx, RowsI.start HBx rfl (by show 2 < 2 * 2; decide)⟩ ?_
  rintro ⟨k, tk⟩ t hp hk R
  simp only at hk R
  first | simp only [updS] | simp only [updL, Nat.reduceAdd]
  by_cases hk2 : k < K
  · have b0 := R.out
    have l0 := R.ltT
    repeat (first | refine S0 ?_ | refine S1 ?_ | refine S2 ?_ | refine S3 ?_ | refine S4 ?_ | refine S5 ?_ | refine S6 ?_ | refine S7 ?_ | refine S8 ?_ | refine S10 ?_ | refine S11 ?_ | refine S13 ?_ | refine S15 ?_ | refine S16 ?_ | refine S19 ?_ | refine S20 ?_ | refine S21 ?_ | refine S22 ?_ | refine S23 ?_ | refine S24 ?_ | refine S25 ?_ | refine S26 ?_ | refine S27 ?_ | refine S33 ?_ | refine S46 ?_ | refine S56 ?_ | refine S60 ?_ | refine S65 ?_ | refine S68 ?_ | refine S71 ?_ | refine S72 ?_ | refine S75 ?_)
    rw [← hK, show 0 + (k : Int).toNat * 1 = k by simp]
    have htn : hp.tok false = 2 * hp.next := HP.tokF _
    refine AW.stR (r := (outI K tk (fun _ => rowF K (fun _ => 0)) k).set k (.ref (hp.tok false) 0 1 K)) EVx (by first | exact Or.inl rfl | exact Or.inr ⟨rfl, HP.tok_even _⟩ | exact Or.inr (Or.inl ⟨rfl, HP.tok_even _⟩) | exact Or.inr (Or.inr ⟨rfl, HP.tok_odd _⟩) | exact Or.inr (Or.inl rfl) | exact Or.inr (Or.inr (Or.inl rfl)) | exact Or.inr (Or.inr (Or.inr (Or.inl ⟨rfl, HP.tok_odd _⟩))) | exact Or.inr (Or.inr (Or.inr (Or.inr ⟨rfl, HP.tok_even _⟩))) | exact Or.inr (Or.inr (Or.inr (Or.inr ⟨rfl, by assumption⟩))) | exact Or.inr ⟨rfl, by assumption⟩ | exact Or.inr (Or.inl ⟨rfl, by assumption⟩) | exact Or.inr (Or.inr ⟨rfl, by assumption⟩) | exact Or.inr (Or.inr (Or.inr (Or.inl ⟨rfl, by assumption⟩))) | exact Or.inr (Or.inr (Or.inl ⟨rfl, HP.tok_odd _⟩)) | exact Or.inr (Or.inr (Or.inl ⟨rfl, by assumption⟩)) | exact Or.inr (Or.inr (Or.inr rfl)) | exact Or.inr (Or.inr rfl) | exact Or.inr rfl) EVx rfl ((HP.add_other _ _ _ (by omega)).trans b0) (by rw [outI_len]; omega) (by first | rfl | (simp only [PV.one, pint, pfr]; done)) rfl ?_
    have hev : hp.tok false % 2 = 0 := HP.tok_even _
    have RY := R.push (X := (hp.add false (ints (List.replicate K 0))).set 2 ((outI K tk (fun _ => rowF K (fun _ => 0)) k).set k (.ref (hp.tok false) 0 1 K))) (r := rowF K (fun _ => 0)) hk2 (T' := hp.tok false) hev (by omega) (by rw [htn]; show _ < 2 * (hp.next + 1); omega) (by show _ ≤ hp.next + 1; omega) (by rw [rowF_len]; exact HP.set_same _ _ _) (fun j hj => (HP.set_other _ _ (R.ne j hj)).trans (HP.add_other _ _ _ (by have := R.lt j hj; omega))) (by rw [rowF_zero]; exact (HP.set_other _ _ (by omega)).trans (HP.add_same _ _ _))
    repeat (first | refine S0 ?_ | refine S1 ?_ | refine S2 ?_ | refine S3 ?_ | refine S4 ?_ | refine S5 ?_ | refine S6 ?_ | refine S7 ?_ | refine S8 ?_ | refine S10 ?_ | refine S11 ?_ | refine S13 ?_ | refine S15 ?_ | refine S16 ?_ | refine S19 ?_ | refine S20 ?_ | refine S21 ?_ | refine S22 ?_ | refine S23 ?_ | refine S24 ?_ | refine S25 ?_ | refine S26 ?_ | refine S27 ?_ | refine S33 ?_ | refine S46 ?_ | refine S56 ?_ | refine S60 ?_ | refine S65 ?_ | refine S68 ?_ | refine S71 ?_ | refine S72 ?_ | refine S75 ?_)
    exact ⟨(k + 1, ovr tk k (hp.tok false)), hk2, SLx, RY.cong (fun j hj => by
      by_cases e : j = k
      · rw [e, ovr_same]
      · rw [ovr_ne _ _ e]), by simp only; omega⟩
  · obtain rfl : k = K := by omega
    have R0 : RowsI k k 2 tk (fun p => rowF k (crR of w 0 p)) hp := R.cong (fun j _ => rowF_ext (fun q _ => by unfold crR; simp [crS]))
    repeat (first | refine S0 ?_ | refine S1 ?_ | refine S2 ?_ | refine S3 ?_ | refine S4 ?_ | refine S5 ?_ | refine S6 ?_ | refine S7 ?_ | refine S8 ?_ | refine S10 ?_ | refine S11 ?_ | refine S13 ?_ | refine S15 ?_ | refine S16 ?_ | refine S19 ?_ | refine S20 ?_ | refine S21 ?_ | refine S22 ?_ | refine S23 ?_ | refine S24 ?_ | refine S25 ?_ | refine S26 ?_ | refine S27 ?_ | refine S33 ?_ | refine S46 ?_ | refine S56 ?_ | refine S60 ?_ | refine S65 ?_ | refine S68 ?_ | refine S71 ?_ | refine S72 ?_ | refine S75 ?_)
    refine CW.loopS (fun j : Nat => j ≤ w.length) (fun j => [(0, pint N), (1, pli w), (6, .clo 95 [.lptr [plls ms]]), (7, .ref 2 0 1 k), (35, pli w), (36, pint w.length), (37, pint j)])
      (fun j hp => RowsI k k 2 tk (fun p => rowF k (crR of w j p)) hp) (fun j => w.length - j) 0 ⟨Nat.zero_le _, SLx, R0⟩ ?_
    clear R0 R hp t
    rintro j t hp hj R
    first | simp only [updS] | simp only [updL, Nat.reduceAdd]
    by_cases hj2 : j < w.length
    · obtain ⟨l1, l2, l3⟩ := hw.ltr hj2
      have hx := abs_let (hw.lt j hj2) (by omega)
      have hX := rindex_s (w.getD j 0) (by omega)
      rw [← l3] at hX
      have ke := ends_s hN (hw.take (j := j) (by omega))
      rw [show (w.take j).length = j by rw [List.length_take]; omega, tab_ext (fun i hi => by rw [eAt_tk (by omega) (Nat.le_refl _)] : ∀ i, i < N → eAt (w.take j) j i = eAt w j i)] at ke
      have hfa := hw.f_lt j hj (ltr (w.getD j 0) - 1) (by omega)
      have hfb := hw.f_lt j hj (ltr (w.getD j 0)) (by omega)
      have kix : ∀ p, p < N → SC Try.prog 98 [pli (tabN N (eAt w j)), pint p] (pint (fAt w j p)) := fun p hp => by
        have hfp := hw.f_lt j hj p hp
        refine index_some (by rw [tab_len]; omega) (by rw [tab_len]; exact hfp) (fun k hk e => ?_) (by rw [tabN_get hfp, hw.ef j hj])
        rw [tabN_get (by omega)] at e
        have e2 : eAt w j k = p := by omega
        have := hw.fe j hj k
        rw [e2] at this
        omega
      have kia := kix (ltr (w.getD j 0) - 1) (by omega)
      have kib := kix (ltr (w.getD j 0)) (by omega)
      rw [show ((ltr (w.getD j 0) - 1 : Nat) : Int) = (ltr (w.getD j 0) : Int) - 1 by omega] at kia
      have koa := ko _ hfa
      have kob := ko _ hfb
      have hcA : crA of w j = of (fAt w j (ltr (w.getD j 0) - 1)) := rfl
      have hcB : crB of w j = of (fAt w j (ltr (w.getD j 0))) := rfl
      have oa := hof _ hfa
      have ob := hof _ hfb
      generalize fAt w j (ltr (w.getD j 0) - 1) = sa at *
      generalize fAt w j (ltr (w.getD j 0)) = sb at *
      generalize of sa = a at *
      generalize of sb = b at *
      generalize hg : ltr (w.getD j 0) = i at *
      repeat (first | refine S0 ?_ | refine S1 ?_ | refine S2 ?_ | refine S3 ?_ | refine S4 ?_ | refine S5 ?_ | refine S6 ?_ | refine S7 ?_ | refine S8 ?_ | refine S10 ?_ | refine S11 ?_ | refine S13 ?_ | refine S15 ?_ | refine S16 ?_ | refine S19 ?_ | refine S20 ?_ | refine S21 ?_ | refine S22 ?_ | refine S23 ?_ | refine S24 ?_ | refine S25 ?_ | refine S26 ?_ | refine S27 ?_ | refine S33 ?_ | refine S46 ?_ | refine S56 ?_ | refine S60 ?_ | refine S65 ?_ | refine S68 ?_ | refine S71 ?_ | refine S72 ?_ | refine S75 ?_)
      refine Scall (args := [pint N, pli (w.take j)]) ke ?_
      repeat (first | refine S0 ?_ | refine S1 ?_ | refine S2 ?_ | refine S3 ?_ | refine S4 ?_ | refine S5 ?_ | refine S6 ?_ | refine S7 ?_ | refine S8 ?_ | refine S10 ?_ | refine S11 ?_ | refine S13 ?_ | refine S15 ?_ | refine S16 ?_ | refine S19 ?_ | refine S20 ?_ | refine S21 ?_ | refine S22 ?_ | refine S23 ?_ | refine S24 ?_ | refine S25 ?_ | refine S26 ?_ | refine S27 ?_ | refine S33 ?_ | refine S46 ?_ | refine S56 ?_ | refine S60 ?_ | refine S65 ?_ | refine S68 ?_ | refine S71 ?_ | refine S72 ?_ | refine S75 ?_)
      refine Scall (args := [pint (w.getD j 0)]) hX ?_
      repeat (first | refine S0 ?_ | refine S1 ?_ | refine S2 ?_ | refine S3 ?_ | refine S4 ?_ | refine S5 ?_ | refine S6 ?_ | refine S7 ?_ | refine S8 ?_ | refine S10 ?_ | refine S11 ?_ | refine S13 ?_ | refine S15 ?_ | refine S16 ?_ | refine S19 ?_ | refine S20 ?_ | refine S21 ?_ | refine S22 ?_ | refine S23 ?_ | refine S24 ?_ | refine S25 ?_ | refine S26 ?_ | refine S27 ?_ | refine S33 ?_ | refine S46 ?_ | refine S56 ?_ | refine S60 ?_ | refine S65 ?_ | refine S68 ?_ | refine S71 ?_ | refine S72 ?_ | refine S75 ?_)
      refine Scall (args := [pli (tabN N (eAt w j)), pint ((i : Int) - 1)]) kia ?_
      repeat (first | refine S0 ?_ | refine S1 ?_ | refine S2 ?_ | refine S3 ?_ | refine S4 ?_ | refine S5 ?_ | refine S6 ?_ | refine S7 ?_ | refine S8 ?_ | refine S10 ?_ | refine S11 ?_ | refine S13 ?_ | refine S15 ?_ | refine S16 ?_ | refine S19 ?_ | refine S20 ?_ | refine S21 ?_ | refine S22 ?_ | refine S23 ?_ | refine S24 ?_ | refine S25 ?_ | refine S26 ?_ | refine S27 ?_ | refine S33 ?_ | refine S46 ?_ | refine S56 ?_ | refine S60 ?_ | refine S65 ?_ | refine S68 ?_ | refine S71 ?_ | refine S72 ?_ | refine S75 ?_)
      refine Scallv (args := [pint sa, .lptr [plls ms]]) koa ?_
      repeat (first | refine S0 ?_ | refine S1 ?_ | refine S2 ?_ | refine S3 ?_ | refine S4 ?_ | refine S5 ?_ | refine S6 ?_ | refine S7 ?_ | refine S8 ?_ | refine S10 ?_ | refine S11 ?_ | refine S13 ?_ | refine S15 ?_ | refine S16 ?_ | refine S19 ?_ | refine S20 ?_ | refine S21 ?_ | refine S22 ?_ | refine S23 ?_ | refine S24 ?_ | refine S25 ?_ | refine S26 ?_ | refine S27 ?_ | refine S33 ?_ | refine S46 ?_ | refine S56 ?_ | refine S60 ?_ | refine S65 ?_ | refine S68 ?_ | refine S71 ?_ | refine S72 ?_ | refine S75 ?_)
      refine Scall (args := [pint (w.getD j 0)]) hX ?_
      repeat (first | refine S0 ?_ | refine S1 ?_ | refine S2 ?_ | refine S3 ?_ | refine S4 ?_ | refine S5 ?_ | refine S6 ?_ | refine S7 ?_ | refine S8 ?_ | refine S10 ?_ | refine S11 ?_ | refine S13 ?_ | refine S15 ?_ | refine S16 ?_ | refine S19 ?_ | refine S20 ?_ | refine S21 ?_ | refine S22 ?_ | refine S23 ?_ | refine S24 ?_ | refine S25 ?_ | refine S26 ?_ | refine S27 ?_ | refine S33 ?_ | refine S46 ?_ | refine S56 ?_ | refine S60 ?_ | refine S65 ?_ | refine S68 ?_ | refine S71 ?_ | refine S72 ?_ | refine S75 ?_)
      refine Scall (args := [pli (tabN N (eAt w j)), pint i]) kib ?_
      repeat (first | refine S0 ?_ | refine S1 ?_ | refine S2 ?_ | refine S3 ?_ | refine S4 ?_ | refine S5 ?_ | refine S6 ?_ | refine S7 ?_ | refine S8 ?_ | refine S10 ?_ | refine S11 ?_ | refine S13 ?_ | refine S15 ?_ | refine S16 ?_ | refine S19 ?_ | refine S20 ?_ | refine S21 ?_ | refine S22 ?_ | refine S23 ?_ | refine S24 ?_ | refine S25 ?_ | refine S26 ?_ | refine S27 ?_ | refine S33 ?_ | refine S46 ?_ | refine S56 ?_ | refine S60 ?_ | refine S65 ?_ | refine S68 ?_ | refine S71 ?_ | refine S72 ?_ | refine S75 ?_)
      refine Scallv (args := [pint sb, .lptr [plls ms]]) kob ?_
      have b0 := R.out
      have hra : hp.blk (tk a) = some (ints (rowF k (crR of w j a))) := R.row a oa
      have hrl := rowF_len k (crR of w j a)
      have hrv : (rowF k (crR of w j a)).getD b 0 = crR of w j a b := rowF_get ob
      have hbd := crR_bd of w j a b
      have hq : (w.getD j 0).tdiv (i : Int) = sgnX (w.getD j 0) := by
        unfold sgnX
        rcases hx.2.2.1 with e | e
        · rw [if_pos (by omega), show w.getD j 0 = (i : Int) by omega]
          exact Int.tdiv_self (by omega)
        · rw [if_neg (by omega), show w.getD j 0 = -(i : Int) by omega, Int.neg_tdiv, Int.tdiv_self (by omega)]
      have hsb : -1 ≤ sgnX (w.getD j 0) ∧ sgnX (w.getD j 0) ≤ 1 := by unfold sgnX; split <;> omega
      repeat (first | refine S0 ?_ | refine S1 ?_ | refine S2 ?_ | refine S3 ?_ | refine S4 ?_ | refine S5 ?_ | refine S6 ?_ | refine S7 ?_ | refine S8 ?_ | refine S10 ?_ | refine S11 ?_ | refine S13 ?_ | refine S15 ?_ | refine S16 ?_ | refine S19 ?_ | refine S20 ?_ | refine S21 ?_ | refine S22 ?_ | refine S23 ?_ | refine S24 ?_ | refine S25 ?_ | refine S26 ?_ | refine S27 ?_ | refine S33 ?_ | refine S46 ?_ | refine S56 ?_ | refine S60 ?_ | refine S65 ?_ | refine S68 ?_ | refine S71 ?_ | refine S72 ?_ | refine S75 ?_)
      rw [show 0 + (a : Int).toNat * 1 = a by simp]
      refine AW.ldm EVx (by first | exact Or.inl rfl | exact Or.inr ⟨rfl, HP.tok_even _⟩ | exact Or.inr (Or.inl ⟨rfl, HP.tok_even _⟩) | exact Or.inr (Or.inr ⟨rfl, HP.tok_odd _⟩) | exact Or.inr (Or.inl rfl) | exact Or.inr (Or.inr (Or.inl rfl)) | exact Or.inr (Or.inr (Or.inr (Or.inl ⟨rfl, HP.tok_odd _⟩))) | exact Or.inr (Or.inr (Or.inr (Or.inr ⟨rfl, HP.tok_even _⟩))) | exact Or.inr (Or.inr (Or.inr (Or.inr ⟨rfl, by assumption⟩))) | exact Or.inr ⟨rfl, by assumption⟩ | exact Or.inr (Or.inl ⟨rfl, by assumption⟩) | exact Or.inr (Or.inr ⟨rfl, by assumption⟩) | exact Or.inr (Or.inr (Or.inr (Or.inl ⟨rfl, by assumption⟩))) | exact Or.inr (Or.inr (Or.inl ⟨rfl, HP.tok_odd _⟩)) | exact Or.inr (Or.inr (Or.inl ⟨rfl, by assumption⟩)) | exact Or.inr (Or.inr (Or.inr rfl)) | exact Or.inr (Or.inr rfl) | exact Or.inr rfl) rfl b0 (outI_get oa oa) ?_
      rw [rowF_len]
      repeat (first | refine S0 ?_ | refine S1 ?_ | refine S2 ?_ | refine S3 ?_ | refine S4 ?_ | refine S5 ?_ | refine S6 ?_ | refine S7 ?_ | refine S8 ?_ | refine S10 ?_ | refine S11 ?_ | refine S13 ?_ | refine S15 ?_ | refine S16 ?_ | refine S19 ?_ | refine S20 ?_ | refine S21 ?_ | refine S22 ?_ | refine S23 ?_ | refine S24 ?_ | refine S25 ?_ | refine S26 ?_ | refine S27 ?_ | refine S33 ?_ | refine S46 ?_ | refine S56 ?_ | refine S60 ?_ | refine S65 ?_ | refine S68 ?_ | refine S71 ?_ | refine S72 ?_ | refine S75 ?_)
      refine Scall (args := [pint (w.getD j 0)]) hX ?_
      repeat (first | refine S0 ?_ | refine S1 ?_ | refine S2 ?_ | refine S3 ?_ | refine S4 ?_ | refine S5 ?_ | refine S6 ?_ | refine S7 ?_ | refine S8 ?_ | refine S10 ?_ | refine S11 ?_ | refine S13 ?_ | refine S15 ?_ | refine S16 ?_ | refine S19 ?_ | refine S20 ?_ | refine S21 ?_ | refine S22 ?_ | refine S23 ?_ | refine S24 ?_ | refine S25 ?_ | refine S26 ?_ | refine S27 ?_ | refine S33 ?_ | refine S46 ?_ | refine S56 ?_ | refine S60 ?_ | refine S65 ?_ | refine S68 ?_ | refine S71 ?_ | refine S72 ?_ | refine S75 ?_)
      simp only [hrv, hq]
      have RY := R.turn oa (r := (rowF k (crR of w j a)).set b (crR of w j a b + sgnX (w.getD j 0))) (by rw [List.length_set])
      obtain ⟨rb, vb, hrb, hrbl, hvb, hvbd, hfin⟩ : ∃ (rb : List Int) (vb : Int), ovr (fun p => rowF k (crR of w j p)) a ((rowF k (crR of w j a)).set b (crR of w j a b + sgnX (w.getD j 0))) b = rb ∧ rb.length = k ∧ rb.getD a 0 = vb ∧ (-100 ≤ vb ∧ vb ≤ 100) ∧
          ∀ p, p < k → ovr (ovr (fun p => rowF k (crR of w j p)) a ((rowF k (crR of w j a)).set b (crR of w j a b + sgnX (w.getD j 0)))) b (rb.set a (vb + sgnX (w.getD j 0))) p = rowF k (crR of w (j + 1) p) := by
        by_cases hab : a = b
        · subst hab
          refine ⟨_, crR of w j a a + sgnX (w.getD j 0), ovr_same _ _ _, by rw [List.length_set, hrl], by rw [getD_lt 0 (by rw [List.length_set, hrl]; exact oa), List.getElem_set_self], by omega, fun p hp => ?_⟩
          by_cases e : p = a
          · rw [e, ovr_same, crR_same hcA hcB oa]
          · rw [ovr_ne _ _ e, ovr_ne _ _ e]; exact crR_row_o hcA hcB e e
        · refine ⟨_, crR of w j b a, ovr_ne _ _ (fun e => hab e.symm), rowF_len _ _, rowF_get oa, by have := crR_bd of w j b a; omega, fun p hp => ?_⟩
          by_cases e : p = b
          · rw [e, ovr_same, crR_row_b hcA hcB oa hab]
          · rw [ovr_ne _ _ e]
            by_cases e2 : p = a
            · rw [e2, ovr_same, crR_row_a hcA hcB ob hab]
            · rw [ovr_ne _ _ e2]; exact crR_row_o hcA hcB e2 e
      have hrowb := RY.row b ob
      rw [hrb] at hrowb
      have c0 := RY.out
      have RZ := RY.turn ob (r := rb.set a (vb + sgnX (w.getD j 0))) (by rw [List.length_set, hrb])
      have hbl : (ovr (fun p => rowF k (crR of w j p)) a ((rowF k (crR of w j a)).set b (crR of w j a b + sgnX (w.getD j 0))) b).length = k := by rw [hrb, hrbl]
      generalize hp.set (tk a) (ints ((rowF k (crR of w j a)).set b (crR of w j a b + sgnX (w.getD j 0)))) = Y at *
      repeat (first | refine S0 ?_ | refine S1 ?_ | refine S2 ?_ | refine S3 ?_ | refine S4 ?_ | refine S5 ?_ | refine S6 ?_ | refine S7 ?_ | refine S8 ?_ | refine S10 ?_ | refine S11 ?_ | refine S13 ?_ | refine S15 ?_ | refine S16 ?_ | refine S19 ?_ | refine S20 ?_ | refine S21 ?_ | refine S22 ?_ | refine S23 ?_ | refine S24 ?_ | refine S25 ?_ | refine S26 ?_ | refine S27 ?_ | refine S33 ?_ | refine S46 ?_ | refine S56 ?_ | refine S60 ?_ | refine S65 ?_ | refine S68 ?_ | refine S71 ?_ | refine S72 ?_ | refine S75 ?_)
      rw [show 0 + (b : Int).toNat * 1 = b by simp]
      refine AW.ldm EVx (by first | exact Or.inl rfl | exact Or.inr ⟨rfl, HP.tok_even _⟩ | exact Or.inr (Or.inl ⟨rfl, HP.tok_even _⟩) | exact Or.inr (Or.inr ⟨rfl, HP.tok_odd _⟩) | exact Or.inr (Or.inl rfl) | exact Or.inr (Or.inr (Or.inl rfl)) | exact Or.inr (Or.inr (Or.inr (Or.inl ⟨rfl, HP.tok_odd _⟩))) | exact Or.inr (Or.inr (Or.inr (Or.inr ⟨rfl, HP.tok_even _⟩))) | exact Or.inr (Or.inr (Or.inr (Or.inr ⟨rfl, by assumption⟩))) | exact Or.inr ⟨rfl, by assumption⟩ | exact Or.inr (Or.inl ⟨rfl, by assumption⟩) | exact Or.inr (Or.inr ⟨rfl, by assumption⟩) | exact Or.inr (Or.inr (Or.inr (Or.inl ⟨rfl, by assumption⟩))) | exact Or.inr (Or.inr (Or.inl ⟨rfl, HP.tok_odd _⟩)) | exact Or.inr (Or.inr (Or.inl ⟨rfl, by assumption⟩)) | exact Or.inr (Or.inr (Or.inr rfl)) | exact Or.inr (Or.inr rfl) | exact Or.inr rfl) rfl c0 (outI_get ob ob) ?_
      rw [hbl]
      repeat (first | refine S0 ?_ | refine S1 ?_ | refine S2 ?_ | refine S3 ?_ | refine S4 ?_ | refine S5 ?_ | refine S6 ?_ | refine S7 ?_ | refine S8 ?_ | refine S10 ?_ | refine S11 ?_ | refine S13 ?_ | refine S15 ?_ | refine S16 ?_ | refine S19 ?_ | refine S20 ?_ | refine S21 ?_ | refine S22 ?_ | refine S23 ?_ | refine S24 ?_ | refine S25 ?_ | refine S26 ?_ | refine S27 ?_ | refine S33 ?_ | refine S46 ?_ | refine S56 ?_ | refine S60 ?_ | refine S65 ?_ | refine S68 ?_ | refine S71 ?_ | refine S72 ?_ | refine S75 ?_)
      refine Scall (args := [pint (w.getD j 0)]) hX ?_
      repeat (first | refine S0 ?_ | refine S1 ?_ | refine S2 ?_ | refine S3 ?_ | refine S4 ?_ | refine S5 ?_ | refine S6 ?_ | refine S7 ?_ | refine S8 ?_ | refine S10 ?_ | refine S11 ?_ | refine S13 ?_ | refine S15 ?_ | refine S16 ?_ | refine S19 ?_ | refine S20 ?_ | refine S21 ?_ | refine S22 ?_ | refine S23 ?_ | refine S24 ?_ | refine S25 ?_ | refine S26 ?_ | refine S27 ?_ | refine S33 ?_ | refine S46 ?_ | refine S56 ?_ | refine S60 ?_ | refine S65 ?_ | refine S68 ?_ | refine S71 ?_ | refine S72 ?_ | refine S75 ?_)
      simp only [hrb, hvb, hq]
      exact ⟨j + 1, hj2, SLx, RZ.cong hfin, by omega⟩
    · obtain rfl : j = w.length := by omega
      repeat (first | refine S0 ?_ | refine S1 ?_ | refine S2 ?_ | refine S3 ?_ | refine S4 ?_ | refine S5 ?_ | refine S6 ?_ | refine S7 ?_ | refine S8 ?_ | refine S10 ?_ | refine S11 ?_ | refine S13 ?_ | refine S15 ?_ | refine S16 ?_ | refine S19 ?_ | refine S20 ?_ | refine S21 ?_ | refine S22 ?_ | refine S23 ?_ | refine S24 ?_ | refine S25 ?_ | refine S26 ?_ | refine S27 ?_ | refine S33 ?_ | refine S46 ?_ | refine S56 ?_ | refine S60 ?_ | refine S65 ?_ | refine S68 ?_ | refine S71 ?_ | refine S72 ?_ | refine S75 ?_)
      have R0 : RowsI k k 2 tk (fun p => rowF k (hl2 of w 0 0 p)) hp := R.cong (fun p _ => rowF_ext (fun q _ => by unfold hl2; rw [if_neg (by omega)]))
      refine CW.loopS (fun p : Nat => p ≤ k) (fun p => [(7, .ref 2 0 1 k), (88, pint k), (89, pint p)]) (fun p hp => RowsI k k 2 tk (fun r => rowF k (hl2 of w p 0 r)) hp) (fun p => k - p) 0 ⟨Nat.zero_le _, SLx, R0⟩ ?_
      clear R0 R hp t
      rintro p t hp hpk R
      first | simp only [updS] | simp only [updL, Nat.reduceAdd]
      by_cases hp2 : p < k
      · repeat (first | refine S0 ?_ | refine S1 ?_ | refine S2 ?_ | refine S3 ?_ | refine S4 ?_ | refine S5 ?_ | refine S6 ?_ | refine S7 ?_ | refine S8 ?_ | refine S10 ?_ | refine S11 ?_ | refine S13 ?_ | refine S15 ?_ | refine S16 ?_ | refine S19 ?_ | refine S20 ?_ | refine S21 ?_ | refine S22 ?_ | refine S23 ?_ | refine S24 ?_ | refine S25 ?_ | refine S26 ?_ | refine S27 ?_ | refine S33 ?_ | refine S46 ?_ | refine S56 ?_ | refine S60 ?_ | refine S65 ?_ | refine S68 ?_ | refine S71 ?_ | refine S72 ?_ | refine S75 ?_)
        refine CW.loopS (fun q : Nat => q ≤ k) (fun q => [(7, .ref 2 0 1 k), (88, pint k), (89, pint p), (14, pint p), (93, pint k), (94, pint q)]) (fun q hp => RowsI k k 2 tk (fun r => rowF k (hl2 of w p q r)) hp) (fun q => k - q) 0 ⟨Nat.zero_le _, SLx, R⟩ ?_
        clear R hp t
        rintro q t hp hqk R
        first | simp only [updS] | simp only [updL, Nat.reduceAdd]
        by_cases hq2 : q < k
        · have b0 := R.out
          have hrp : hp.blk (tk p) = some (ints (rowF k (hl2 of w p q p))) := R.row p hp2
          have hrl := rowF_len k (hl2 of w p q p)
          have hrv : (rowF k (hl2 of w p q p)).getD q 0 = crR of w w.length p q := by rw [rowF_get hq2]; unfold hl2; rw [if_neg (by omega)]
          have hbd := crR_bd of w w.length p q
          repeat (first | refine S0 ?_ | refine S1 ?_ | refine S2 ?_ | refine S3 ?_ | refine S4 ?_ | refine S5 ?_ | refine S6 ?_ | refine S7 ?_ | refine S8 ?_ | refine S10 ?_ | refine S11 ?_ | refine S13 ?_ | refine S15 ?_ | refine S16 ?_ | refine S19 ?_ | refine S20 ?_ | refine S21 ?_ | refine S22 ?_ | refine S23 ?_ | refine S24 ?_ | refine S25 ?_ | refine S26 ?_ | refine S27 ?_ | refine S33 ?_ | refine S46 ?_ | refine S56 ?_ | refine S60 ?_ | refine S65 ?_ | refine S68 ?_ | refine S71 ?_ | refine S72 ?_ | refine S75 ?_)
          rw [show 0 + (p : Int).toNat * 1 = p by simp]
          refine AW.ldm EVx (by first | exact Or.inl rfl | exact Or.inr ⟨rfl, HP.tok_even _⟩ | exact Or.inr (Or.inl ⟨rfl, HP.tok_even _⟩) | exact Or.inr (Or.inr ⟨rfl, HP.tok_odd _⟩) | exact Or.inr (Or.inl rfl) | exact Or.inr (Or.inr (Or.inl rfl)) | exact Or.inr (Or.inr (Or.inr (Or.inl ⟨rfl, HP.tok_odd _⟩))) | exact Or.inr (Or.inr (Or.inr (Or.inr ⟨rfl, HP.tok_even _⟩))) | exact Or.inr (Or.inr (Or.inr (Or.inr ⟨rfl, by assumption⟩))) | exact Or.inr ⟨rfl, by assumption⟩ | exact Or.inr (Or.inl ⟨rfl, by assumption⟩) | exact Or.inr (Or.inr ⟨rfl, by assumption⟩) | exact Or.inr (Or.inr (Or.inr (Or.inl ⟨rfl, by assumption⟩))) | exact Or.inr (Or.inr (Or.inl ⟨rfl, HP.tok_odd _⟩)) | exact Or.inr (Or.inr (Or.inl ⟨rfl, by assumption⟩)) | exact Or.inr (Or.inr (Or.inr rfl)) | exact Or.inr (Or.inr rfl) | exact Or.inr rfl) rfl b0 (outI_get hp2 hp2) ?_
          rw [rowF_len]
          repeat (first | refine S0 ?_ | refine S1 ?_ | refine S2 ?_ | refine S3 ?_ | refine S4 ?_ | refine S5 ?_ | refine S6 ?_ | refine S7 ?_ | refine S8 ?_ | refine S10 ?_ | refine S11 ?_ | refine S13 ?_ | refine S15 ?_ | refine S16 ?_ | refine S19 ?_ | refine S20 ?_ | refine S21 ?_ | refine S22 ?_ | refine S23 ?_ | refine S24 ?_ | refine S25 ?_ | refine S26 ?_ | refine S27 ?_ | refine S33 ?_ | refine S46 ?_ | refine S56 ?_ | refine S60 ?_ | refine S65 ?_ | refine S68 ?_ | refine S71 ?_ | refine S72 ?_ | refine S75 ?_)
          rw [hrv, hl2_row hq2]
          exact ⟨q + 1, hq2, SLx, (R.turn hp2 (r := rowF k (hl2 of w p (q + 1) p)) (by rw [rowF_len, rowF_len])).cong (fun r _ => by
            by_cases e : r = p
            · rw [e, ovr_same]
            · rw [ovr_ne _ _ e]; exact rowF_ext (fun c _ => hl2_oth e)), by omega⟩
        · obtain rfl : q = k := by omega
          repeat (first | refine S0 ?_ | refine S1 ?_ | refine S2 ?_ | refine S3 ?_ | refine S4 ?_ | refine S5 ?_ | refine S6 ?_ | refine S7 ?_ | refine S8 ?_ | refine S10 ?_ | refine S11 ?_ | refine S13 ?_ | refine S15 ?_ | refine S16 ?_ | refine S19 ?_ | refine S20 ?_ | refine S21 ?_ | refine S22 ?_ | refine S23 ?_ | refine S24 ?_ | refine S25 ?_ | refine S26 ?_ | refine S27 ?_ | refine S33 ?_ | refine S46 ?_ | refine S56 ?_ | refine S60 ?_ | refine S65 ?_ | refine S68 ?_ | refine S71 ?_ | refine S72 ?_ | refine S75 ?_)
          exact ⟨p + 1, hp2, SLx, R.cong (fun r _ => rowF_ext (fun c hc => hl2_next hc)), by omega⟩
      · obtain rfl : p = k := by omega
        refine CW.frzR R (fun h' hb' hf' => ?_)
        have e : ((List.range p).map fun r => rowF p (hl2 of w p 0 r)) = (List.range p).map fun r => rowF p (lnk of w r) := List.map_congr_left (fun r hr => rowF_ext (fun c _ => by unfold hl2; rw [if_pos (.inl (List.mem_range.1 hr))]))
        rw [e] at hb'
        refine CW.freeze 7 (tk := 2) (off := 0) (sz := 1) (m := p) (v := plls ((List.range p).map fun r => rowF p (lnk of w r))) rfl hb' (by simp) ?_ ?_
        · unfold plls
          rw [List.drop_zero, Nat.mul_one, List.length_map, List.length_range, List.take_of_length_le (by simp)]
        repeat (first | refine S0 ?_ | refine S1 ?_ | refine S2 ?_ | refine S3 ?_ | refine S4 ?_ | refine S5 ?_ | refine S6 ?_ | refine S7 ?_ | refine S8 ?_ | refine S10 ?_ | refine S11 ?_ | refine S13 ?_ | refine S15 ?_ | refine S16 ?_ | refine S19 ?_ | refine S20 ?_ | refine S21 ?_ | refine S22 ?_ | refine S23 ?_ | refine S24 ?_ | refine S25 ?_ | refine S26 ?_ | refine S27 ?_ | refine S33 ?_ | refine S46 ?_ | refine S56 ?_ | refine S60 ?_ | refine S65 ?_ | refine S68 ?_ | refine S71 ?_ | refine S72 ?_ | refine S75 ?_)
        exact ⟨.inr rfl, .cl (plls_cl _)⟩
end Go.Proofs.Ytgjfpmjllpgadaa
