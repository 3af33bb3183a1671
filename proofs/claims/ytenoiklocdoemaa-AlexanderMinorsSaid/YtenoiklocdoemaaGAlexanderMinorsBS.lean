/- The reference's Burau matrix of one letter. No condition of its own. -/
import Derived.Test.YtenoiklocdoemaaGAlexanderMinorsBR
set_option linter.unusedVariables false
set_option linter.unusedSimpArgs false
namespace Go.Proofs.Ytenoiklocdoemaa
open Go.RowKit

set_option maxHeartbeats 32000000 in
set_option maxRecDepth 100000 in
theorem rburauP_s {n : Nat} (hn : 1 ≤ n ∧ n ≤ 6) (x : Int) (hlx : letP n x) (hs : 0 < x) : SC Try.prog 9 [pint n, pli [x]] (ptmss (matT (letterT x) n)) := by
  have hxa : 1 ≤ x.natAbs ∧ x.natAbs < n ∧ -6 < x ∧ x < 6 ∧ absI x = (x.natAbs : Int) := by
    obtain ⟨q1, q2, q3⟩ := hlx
    unfold absI
    refine ⟨by omega, by omega, by omega, by omega, ?_⟩
    split <;> omega
  obtain ⟨HS, hHS⟩ : ∃ HS : Prop, HS = (0 < x) := ⟨_, rfl⟩
  rw [← hHS] at hs
  obtain ⟨m, hm⟩ : ∃ m, m = x.natAbs := ⟨_, rfl⟩
  have hm1 : 1 ≤ m := by omega
  have hmn : m < n := by omega
  refine SC.go { pc := [18, 25, 26], rl := [43, 50, 55, 61, 78, 85, 90, 96], am := [63, 65, 67, 69, 98, 99, 101, 103], sq := [70, 71, 72, 73, 105, 106, 107, 108] } tok mixed Try.func9 rfl rfl Try.ntmps9 rfl rfl (code3_ok (by kernel_rfl)) ?_
  first | simp only [updS] | simp only [updL, Nat.reduceAdd]
  repeat (first | refine S0 ?_ | refine S1 ?_ | refine S2 ?_ | refine S3 ?_ | refine S4 ?_ | refine S5 ?_ | refine S6 ?_ | refine S7 ?_ | refine S8 ?_ | refine S10 ?_ | refine S13 ?_ | refine S15 ?_ | refine S16 ?_ | refine S19 ?_ | refine S20 ?_ | refine S21 ?_ | refine S22 ?_ | refine S23 ?_ | refine S25 ?_ | refine S26 ?_ | refine S27 ?_ | refine S30 ?_ | refine S33 ?_)
  refine Scalle (args := [pint n]) (unit_e hn.2 _) ?_
  rintro r h' ⟨T, tk, rfl, R, F, G, hTg⟩
  repeat (first | refine S0 ?_ | refine S1 ?_ | refine S2 ?_ | refine S3 ?_ | refine S4 ?_ | refine S5 ?_ | refine S6 ?_ | refine S7 ?_ | refine S8 ?_ | refine S10 ?_ | refine S13 ?_ | refine S15 ?_ | refine S16 ?_ | refine S19 ?_ | refine S20 ?_ | refine S21 ?_ | refine S22 ?_ | refine S23 ?_ | refine S25 ?_ | refine S26 ?_ | refine S27 ?_ | refine S30 ?_ | refine S33 ?_)
  have hTe := R.evT
  refine CW.loopS (fun i : Nat => i ≤ 1) (fun i => [(5, .ref T 0 1 n), (29, pli [x]), (30, pint (1 : Nat)), (31, pint i)])
    (fun i hp => RowsM n n T tk (rowT (if i = 0 then unitT else letterT x) n) hp) (fun i => 1 - i) 0 ⟨Nat.zero_le _, SLx, ?_⟩ ?_
  · rw [if_pos rfl]; exact R
  clear R F
  rintro i t h1 hi R
  first | simp only [updS] | simp only [updL, Nat.reduceAdd]
  by_cases hi2 : i < 1
  · have hi0 : i = 0 := by omega
    rw [if_pos hi0] at R
    have hgx : [x].getD i 0 = x := by rw [hi0]; rfl
    have hne : tk (m - 1) ≠ tk m := fun e => by have := R.inj _ _ (by omega) hmn e; omega
    have hev1 := R.ev (m - 1) (by omega)
    have hev2 := R.ev m hmn
    repeat (first | refine S0 ?_ | refine S1 ?_ | refine S2 ?_ | refine S3 ?_ | refine S4 ?_ | refine S5 ?_ | refine S6 ?_ | refine S7 ?_ | refine S8 ?_ | refine S10 ?_ | refine S13 ?_ | refine S15 ?_ | refine S16 ?_ | refine S19 ?_ | refine S20 ?_ | refine S21 ?_ | refine S22 ?_ | refine S23 ?_ | refine S25 ?_ | refine S26 ?_ | refine S27 ?_ | refine S30 ?_ | refine S33 ?_)
    try rw [hgx]
    repeat (first | refine S0 ?_ | refine S1 ?_ | refine S2 ?_ | refine S3 ?_ | refine S4 ?_ | refine S5 ?_ | refine S6 ?_ | refine S7 ?_ | refine S8 ?_ | refine S10 ?_ | refine S13 ?_ | refine S15 ?_ | refine S16 ?_ | refine S19 ?_ | refine S20 ?_ | refine S21 ?_ | refine S22 ?_ | refine S23 ?_ | refine S25 ?_ | refine S26 ?_ | refine S27 ?_ | refine S30 ?_ | refine S33 ?_)
    refine Scall (args := [pint x]) (rindex_s x (by omega)) ?_
    rw [hxa.2.2.2.2, ← hm]
    repeat (first | refine S0 ?_ | refine S1 ?_ | refine S2 ?_ | refine S3 ?_ | refine S4 ?_ | refine S5 ?_ | refine S6 ?_ | refine S7 ?_ | refine S8 ?_ | refine S10 ?_ | refine S13 ?_ | refine S15 ?_ | refine S16 ?_ | refine S19 ?_ | refine S20 ?_ | refine S21 ?_ | refine S22 ?_ | refine S23 ?_ | refine S25 ?_ | refine S26 ?_ | refine S27 ?_ | refine S30 ?_ | refine S33 ?_)
    refine CW.cut [(5, .ref T 0 1 n), (8, pint m), (29, pli [x]), (30, pint (1 : Nat)), (31, pint i), (38, .sc (.bool (decide (0 < x))))] (fun hp => RowsM n n T tk (rowT unitT n) hp) ?_ ?_
    · exact ⟨SLx, R⟩
    clear R t h1
    intro t h1 R
    rw [hHS] at hs
    first | simp only [updS] | simp only [updL, Nat.reduceAdd]
    refine CW.bump 1024 ?_
    have hbo : (h1.bump 1024).blk T = _ := R.out
    obtain ⟨ta, a1, a2, a3, a4⟩ := win_for h1 63 (by decide)
    obtain ⟨tb, b1, b2, b3, b4⟩ := win_for h1 65 (by decide)
    obtain ⟨tc, c1, c2, c3, c4⟩ := win_for h1 67 (by decide)
    obtain ⟨td, d1, d2, d3, d4⟩ := win_for h1 69 (by decide)
    have nba : tb ≠ ta := by omega
    have nca : tc ≠ ta := by omega
    have ncb : tc ≠ tb := by omega
    have nda : td ≠ ta := by omega
    have ndb : td ≠ tb := by omega
    have ndc : td ≠ tc := by omega
    clear a2 a3 b2 b3 c2 c3 d2 d3
    repeat (first | refine S0 ?_ | refine S1 ?_ | refine S2 ?_ | refine S3 ?_ | refine S4 ?_ | refine S5 ?_ | refine S6 ?_ | refine S7 ?_ | refine S8 ?_ | refine S10 ?_ | refine S13 ?_ | refine S15 ?_ | refine S16 ?_ | refine S19 ?_ | refine S20 ?_ | refine S21 ?_ | refine S22 ?_ | refine S23 ?_ | refine S25 ?_ | refine S26 ?_ | refine S27 ?_ | refine S30 ?_ | refine S33 ?_)
    rw [show 0 + ((m : Int) - 1).toNat * 1 = m - 1 by omega]
    refine AW.ldm EVx (by first | exact Or.inl rfl | exact Or.inr ⟨rfl, HP.tok_even _⟩ | exact Or.inr (Or.inl ⟨rfl, HP.tok_even _⟩) | exact Or.inr (Or.inr ⟨rfl, HP.tok_odd _⟩) | exact Or.inr (Or.inl rfl) | exact Or.inr (Or.inr (Or.inl rfl)) | exact Or.inr (Or.inr (Or.inr (Or.inl ⟨rfl, HP.tok_odd _⟩))) | exact Or.inr (Or.inr (Or.inr (Or.inr ⟨rfl, HP.tok_even _⟩))) | exact Or.inr (Or.inr (Or.inr (Or.inr ⟨rfl, by assumption⟩))) | exact Or.inr ⟨rfl, by assumption⟩ | exact Or.inr (Or.inl ⟨rfl, by assumption⟩) | exact Or.inr (Or.inr ⟨rfl, by assumption⟩) | exact Or.inr (Or.inr (Or.inr (Or.inl ⟨rfl, by assumption⟩))) | exact Or.inr (Or.inr (Or.inl ⟨rfl, HP.tok_odd _⟩)) | exact Or.inr (Or.inr (Or.inl ⟨rfl, by assumption⟩)) | exact Or.inr (Or.inr (Or.inr rfl)) | exact Or.inr (Or.inr rfl) | exact Or.inr rfl) rfl hbo (outM_get (k := n) (by omega) (by omega)) ?_
    repeat (first | refine S0 ?_ | refine S1 ?_ | refine S2 ?_ | refine S3 ?_ | refine S4 ?_ | refine S5 ?_ | refine S6 ?_ | refine S7 ?_ | refine S8 ?_ | refine S10 ?_ | refine S13 ?_ | refine S15 ?_ | refine S16 ?_ | refine S19 ?_ | refine S20 ?_ | refine S21 ?_ | refine S22 ?_ | refine S23 ?_ | refine S25 ?_ | refine S26 ?_ | refine S27 ?_ | refine S30 ?_ | refine S33 ?_)
    rw [show 0 + ((m : Int) - 1).toNat * 1 = m - 1 by omega]
    refine AW.ldm EVx (by first | exact Or.inl rfl | exact Or.inr ⟨rfl, HP.tok_even _⟩ | exact Or.inr (Or.inl ⟨rfl, HP.tok_even _⟩) | exact Or.inr (Or.inr ⟨rfl, HP.tok_odd _⟩) | exact Or.inr (Or.inl rfl) | exact Or.inr (Or.inr (Or.inl rfl)) | exact Or.inr (Or.inr (Or.inr (Or.inl ⟨rfl, HP.tok_odd _⟩))) | exact Or.inr (Or.inr (Or.inr (Or.inr ⟨rfl, HP.tok_even _⟩))) | exact Or.inr (Or.inr (Or.inr (Or.inr ⟨rfl, by assumption⟩))) | exact Or.inr ⟨rfl, by assumption⟩ | exact Or.inr (Or.inl ⟨rfl, by assumption⟩) | exact Or.inr (Or.inr ⟨rfl, by assumption⟩) | exact Or.inr (Or.inr (Or.inr (Or.inl ⟨rfl, by assumption⟩))) | exact Or.inr (Or.inr (Or.inl ⟨rfl, HP.tok_odd _⟩)) | exact Or.inr (Or.inr (Or.inl ⟨rfl, by assumption⟩)) | exact Or.inr (Or.inr (Or.inr rfl)) | exact Or.inr (Or.inr rfl) | exact Or.inr rfl) rfl hbo (outM_get (k := n) (by omega) (by omega)) ?_
    repeat (first | refine S0 ?_ | refine S1 ?_ | refine S2 ?_ | refine S3 ?_ | refine S4 ?_ | refine S5 ?_ | refine S6 ?_ | refine S7 ?_ | refine S8 ?_ | refine S10 ?_ | refine S13 ?_ | refine S15 ?_ | refine S16 ?_ | refine S19 ?_ | refine S20 ?_ | refine S21 ?_ | refine S22 ?_ | refine S23 ?_ | refine S25 ?_ | refine S26 ?_ | refine S27 ?_ | refine S30 ?_ | refine S33 ?_)
    rw [show 0 + (m : Int).toNat * 1 = m by omega]
    refine AW.ldm EVx (by first | exact Or.inl rfl | exact Or.inr ⟨rfl, HP.tok_even _⟩ | exact Or.inr (Or.inl ⟨rfl, HP.tok_even _⟩) | exact Or.inr (Or.inr ⟨rfl, HP.tok_odd _⟩) | exact Or.inr (Or.inl rfl) | exact Or.inr (Or.inr (Or.inl rfl)) | exact Or.inr (Or.inr (Or.inr (Or.inl ⟨rfl, HP.tok_odd _⟩))) | exact Or.inr (Or.inr (Or.inr (Or.inr ⟨rfl, HP.tok_even _⟩))) | exact Or.inr (Or.inr (Or.inr (Or.inr ⟨rfl, by assumption⟩))) | exact Or.inr ⟨rfl, by assumption⟩ | exact Or.inr (Or.inl ⟨rfl, by assumption⟩) | exact Or.inr (Or.inr ⟨rfl, by assumption⟩) | exact Or.inr (Or.inr (Or.inr (Or.inl ⟨rfl, by assumption⟩))) | exact Or.inr (Or.inr (Or.inl ⟨rfl, HP.tok_odd _⟩)) | exact Or.inr (Or.inr (Or.inl ⟨rfl, by assumption⟩)) | exact Or.inr (Or.inr (Or.inr rfl)) | exact Or.inr (Or.inr rfl) | exact Or.inr rfl) rfl hbo (outM_get (k := n) (by omega) (by omega)) ?_
    repeat (first | refine S0 ?_ | refine S1 ?_ | refine S2 ?_ | refine S3 ?_ | refine S4 ?_ | refine S5 ?_ | refine S6 ?_ | refine S7 ?_ | refine S8 ?_ | refine S10 ?_ | refine S13 ?_ | refine S15 ?_ | refine S16 ?_ | refine S19 ?_ | refine S20 ?_ | refine S21 ?_ | refine S22 ?_ | refine S23 ?_ | refine S25 ?_ | refine S26 ?_ | refine S27 ?_ | refine S30 ?_ | refine S33 ?_)
    rw [show 0 + (m : Int).toNat * 1 = m by omega]
    refine AW.ldm EVx (by first | exact Or.inl rfl | exact Or.inr ⟨rfl, HP.tok_even _⟩ | exact Or.inr (Or.inl ⟨rfl, HP.tok_even _⟩) | exact Or.inr (Or.inr ⟨rfl, HP.tok_odd _⟩) | exact Or.inr (Or.inl rfl) | exact Or.inr (Or.inr (Or.inl rfl)) | exact Or.inr (Or.inr (Or.inr (Or.inl ⟨rfl, HP.tok_odd _⟩))) | exact Or.inr (Or.inr (Or.inr (Or.inr ⟨rfl, HP.tok_even _⟩))) | exact Or.inr (Or.inr (Or.inr (Or.inr ⟨rfl, by assumption⟩))) | exact Or.inr ⟨rfl, by assumption⟩ | exact Or.inr (Or.inl ⟨rfl, by assumption⟩) | exact Or.inr (Or.inr ⟨rfl, by assumption⟩) | exact Or.inr (Or.inr (Or.inr (Or.inl ⟨rfl, by assumption⟩))) | exact Or.inr (Or.inr (Or.inl ⟨rfl, HP.tok_odd _⟩)) | exact Or.inr (Or.inr (Or.inl ⟨rfl, by assumption⟩)) | exact Or.inr (Or.inr (Or.inr rfl)) | exact Or.inr (Or.inr rfl) | exact Or.inr rfl) rfl hbo (outM_get (k := n) (by omega) (by omega)) ?_
    repeat (first | refine S0 ?_ | refine S1 ?_ | refine S2 ?_ | refine S3 ?_ | refine S4 ?_ | refine S5 ?_ | refine S6 ?_ | refine S7 ?_ | refine S8 ?_ | refine S10 ?_ | refine S13 ?_ | refine S15 ?_ | refine S16 ?_ | refine S19 ?_ | refine S20 ?_ | refine S21 ?_ | refine S22 ?_ | refine S23 ?_ | refine S25 ?_ | refine S26 ?_ | refine S27 ?_ | refine S30 ?_ | refine S33 ?_)
    refine AW.mkmAI ta rfl rfl a1 (a4) ?_
    refine AW.insAI (f := tm0) (g := t1 0 1) EVx EVx EVx rfl rfl a1 (HP.putS_same _ _ _) rfl rfl ?_
    refine AW.insAI (f := t1 0 1) (g := ins (t1 0 1) 1 (-1)) EVx EVx EVx rfl rfl a1 (HP.setS_same _ _ _) (if_neg (by omega)) rfl ?_
    repeat (first | refine S0 ?_ | refine S1 ?_ | refine S2 ?_ | refine S3 ?_ | refine S4 ?_ | refine S5 ?_ | refine S6 ?_ | refine S7 ?_ | refine S8 ?_ | refine S10 ?_ | refine S13 ?_ | refine S15 ?_ | refine S16 ?_ | refine S19 ?_ | refine S20 ?_ | refine S21 ?_ | refine S22 ?_ | refine S23 ?_ | refine S25 ?_ | refine S26 ?_ | refine S27 ?_ | refine S30 ?_ | refine S33 ?_)
    refine AW.mkmAI tb rfl rfl b1 (HP.putS_keep (c := .map (mi fun _ => none)) nba (b4)) ?_
    refine AW.insAI (f := tm0) (g := t1 1 1) EVx EVx EVx rfl rfl b1 (HP.putS_same _ _ _) rfl rfl ?_
    repeat (first | refine S0 ?_ | refine S1 ?_ | refine S2 ?_ | refine S3 ?_ | refine S4 ?_ | refine S5 ?_ | refine S6 ?_ | refine S7 ?_ | refine S8 ?_ | refine S10 ?_ | refine S13 ?_ | refine S15 ?_ | refine S16 ?_ | refine S19 ?_ | refine S20 ?_ | refine S21 ?_ | refine S22 ?_ | refine S23 ?_ | refine S25 ?_ | refine S26 ?_ | refine S27 ?_ | refine S30 ?_ | refine S33 ?_)
    refine AW.mkmAI tc rfl rfl c1 (HP.putS_keep (c := .map (mi fun _ => none)) ncb (HP.putS_keep (c := .map (mi fun _ => none)) nca (c4))) ?_
    refine AW.insAI (f := tm0) (g := t1 0 1) EVx EVx EVx rfl rfl c1 (HP.putS_same _ _ _) rfl rfl ?_
    repeat (first | refine S0 ?_ | refine S1 ?_ | refine S2 ?_ | refine S3 ?_ | refine S4 ?_ | refine S5 ?_ | refine S6 ?_ | refine S7 ?_ | refine S8 ?_ | refine S10 ?_ | refine S13 ?_ | refine S15 ?_ | refine S16 ?_ | refine S19 ?_ | refine S20 ?_ | refine S21 ?_ | refine S22 ?_ | refine S23 ?_ | refine S25 ?_ | refine S26 ?_ | refine S27 ?_ | refine S30 ?_ | refine S33 ?_)
    refine AW.mkmAI td rfl rfl d1 (HP.putS_keep (c := .map (mi fun _ => none)) ndc (HP.putS_keep (c := .map (mi fun _ => none)) ndb (HP.putS_keep (c := .map (mi fun _ => none)) nda (d4)))) ?_
    repeat (first | refine S0 ?_ | refine S1 ?_ | refine S2 ?_ | refine S3 ?_ | refine S4 ?_ | refine S5 ?_ | refine S6 ?_ | refine S7 ?_ | refine S8 ?_ | refine S10 ?_ | refine S13 ?_ | refine S15 ?_ | refine S16 ?_ | refine S19 ?_ | refine S20 ?_ | refine S21 ?_ | refine S22 ?_ | refine S23 ?_ | refine S25 ?_ | refine S26 ?_ | refine S27 ?_ | refine S30 ?_ | refine S33 ?_)
    rw [show 0 + ((m : Int) - 1).toNat * 1 = m - 1 by omega]
    refine AW.stR (r := (rowT unitT n (m - 1)).set (m - 1) (.mref ta)) EVx (by first | exact Or.inl rfl | exact Or.inr ⟨rfl, HP.tok_even _⟩ | exact Or.inr (Or.inl ⟨rfl, HP.tok_even _⟩) | exact Or.inr (Or.inr ⟨rfl, HP.tok_odd _⟩) | exact Or.inr (Or.inl rfl) | exact Or.inr (Or.inr (Or.inl rfl)) | exact Or.inr (Or.inr (Or.inr (Or.inl ⟨rfl, HP.tok_odd _⟩))) | exact Or.inr (Or.inr (Or.inr (Or.inr ⟨rfl, HP.tok_even _⟩))) | exact Or.inr (Or.inr (Or.inr (Or.inr ⟨rfl, by assumption⟩))) | exact Or.inr ⟨rfl, by assumption⟩ | exact Or.inr (Or.inl ⟨rfl, by assumption⟩) | exact Or.inr (Or.inr ⟨rfl, by assumption⟩) | exact Or.inr (Or.inr (Or.inr (Or.inl ⟨rfl, by assumption⟩))) | exact Or.inr (Or.inr (Or.inl ⟨rfl, HP.tok_odd _⟩)) | exact Or.inr (Or.inr (Or.inl ⟨rfl, by assumption⟩)) | exact Or.inr (Or.inr (Or.inr rfl)) | exact Or.inr (Or.inr rfl) | exact Or.inr rfl) EVx rfl (R.row _ (by omega)) (by rw [rowT_len]; omega) rfl rfl ?_
    repeat (first | refine S0 ?_ | refine S1 ?_ | refine S2 ?_ | refine S3 ?_ | refine S4 ?_ | refine S5 ?_ | refine S6 ?_ | refine S7 ?_ | refine S8 ?_ | refine S10 ?_ | refine S13 ?_ | refine S15 ?_ | refine S16 ?_ | refine S19 ?_ | refine S20 ?_ | refine S21 ?_ | refine S22 ?_ | refine S23 ?_ | refine S25 ?_ | refine S26 ?_ | refine S27 ?_ | refine S30 ?_ | refine S33 ?_)
    rw [show 0 + (m : Int).toNat * 1 = m by omega]
    refine AW.stR (r := ((rowT unitT n (m - 1)).set (m - 1) (.mref ta)).set (m) (.mref tb)) EVx (by first | exact Or.inl rfl | exact Or.inr ⟨rfl, HP.tok_even _⟩ | exact Or.inr (Or.inl ⟨rfl, HP.tok_even _⟩) | exact Or.inr (Or.inr ⟨rfl, HP.tok_odd _⟩) | exact Or.inr (Or.inl rfl) | exact Or.inr (Or.inr (Or.inl rfl)) | exact Or.inr (Or.inr (Or.inr (Or.inl ⟨rfl, HP.tok_odd _⟩))) | exact Or.inr (Or.inr (Or.inr (Or.inr ⟨rfl, HP.tok_even _⟩))) | exact Or.inr (Or.inr (Or.inr (Or.inr ⟨rfl, by assumption⟩))) | exact Or.inr ⟨rfl, by assumption⟩ | exact Or.inr (Or.inl ⟨rfl, by assumption⟩) | exact Or.inr (Or.inr ⟨rfl, by assumption⟩) | exact Or.inr (Or.inr (Or.inr (Or.inl ⟨rfl, by assumption⟩))) | exact Or.inr (Or.inr (Or.inl ⟨rfl, HP.tok_odd _⟩)) | exact Or.inr (Or.inr (Or.inl ⟨rfl, by assumption⟩)) | exact Or.inr (Or.inr (Or.inr rfl)) | exact Or.inr (Or.inr rfl) | exact Or.inr rfl) EVx rfl (HP.set_same _ _ _) (by rw [List.length_set, rowT_len]; omega) rfl rfl ?_
    repeat (first | refine S0 ?_ | refine S1 ?_ | refine S2 ?_ | refine S3 ?_ | refine S4 ?_ | refine S5 ?_ | refine S6 ?_ | refine S7 ?_ | refine S8 ?_ | refine S10 ?_ | refine S13 ?_ | refine S15 ?_ | refine S16 ?_ | refine S19 ?_ | refine S20 ?_ | refine S21 ?_ | refine S22 ?_ | refine S23 ?_ | refine S25 ?_ | refine S26 ?_ | refine S27 ?_ | refine S30 ?_ | refine S33 ?_)
    rw [show 0 + ((m : Int) - 1).toNat * 1 = m - 1 by omega]
    refine AW.stR (r := (rowT unitT n (m)).set (m - 1) (.mref tc)) EVx (by first | exact Or.inl rfl | exact Or.inr ⟨rfl, HP.tok_even _⟩ | exact Or.inr (Or.inl ⟨rfl, HP.tok_even _⟩) | exact Or.inr (Or.inr ⟨rfl, HP.tok_odd _⟩) | exact Or.inr (Or.inl rfl) | exact Or.inr (Or.inr (Or.inl rfl)) | exact Or.inr (Or.inr (Or.inr (Or.inl ⟨rfl, HP.tok_odd _⟩))) | exact Or.inr (Or.inr (Or.inr (Or.inr ⟨rfl, HP.tok_even _⟩))) | exact Or.inr (Or.inr (Or.inr (Or.inr ⟨rfl, by assumption⟩))) | exact Or.inr ⟨rfl, by assumption⟩ | exact Or.inr (Or.inl ⟨rfl, by assumption⟩) | exact Or.inr (Or.inr ⟨rfl, by assumption⟩) | exact Or.inr (Or.inr (Or.inr (Or.inl ⟨rfl, by assumption⟩))) | exact Or.inr (Or.inr (Or.inl ⟨rfl, HP.tok_odd _⟩)) | exact Or.inr (Or.inr (Or.inl ⟨rfl, by assumption⟩)) | exact Or.inr (Or.inr (Or.inr rfl)) | exact Or.inr (Or.inr rfl) | exact Or.inr rfl) EVx rfl ((HP.set_other _ _ (Ne.symm hne)).trans ((HP.set_other _ _ (Ne.symm hne)).trans (R.row _ (by omega)))) (by rw [rowT_len]; omega) rfl rfl ?_
    repeat (first | refine S0 ?_ | refine S1 ?_ | refine S2 ?_ | refine S3 ?_ | refine S4 ?_ | refine S5 ?_ | refine S6 ?_ | refine S7 ?_ | refine S8 ?_ | refine S10 ?_ | refine S13 ?_ | refine S15 ?_ | refine S16 ?_ | refine S19 ?_ | refine S20 ?_ | refine S21 ?_ | refine S22 ?_ | refine S23 ?_ | refine S25 ?_ | refine S26 ?_ | refine S27 ?_ | refine S30 ?_ | refine S33 ?_)
    rw [show 0 + (m : Int).toNat * 1 = m by omega]
    refine AW.stR (r := ((rowT unitT n (m)).set (m - 1) (.mref tc)).set (m) (.mref td)) EVx (by first | exact Or.inl rfl | exact Or.inr ⟨rfl, HP.tok_even _⟩ | exact Or.inr (Or.inl ⟨rfl, HP.tok_even _⟩) | exact Or.inr (Or.inr ⟨rfl, HP.tok_odd _⟩) | exact Or.inr (Or.inl rfl) | exact Or.inr (Or.inr (Or.inl rfl)) | exact Or.inr (Or.inr (Or.inr (Or.inl ⟨rfl, HP.tok_odd _⟩))) | exact Or.inr (Or.inr (Or.inr (Or.inr ⟨rfl, HP.tok_even _⟩))) | exact Or.inr (Or.inr (Or.inr (Or.inr ⟨rfl, by assumption⟩))) | exact Or.inr ⟨rfl, by assumption⟩ | exact Or.inr (Or.inl ⟨rfl, by assumption⟩) | exact Or.inr (Or.inr ⟨rfl, by assumption⟩) | exact Or.inr (Or.inr (Or.inr (Or.inl ⟨rfl, by assumption⟩))) | exact Or.inr (Or.inr (Or.inl ⟨rfl, HP.tok_odd _⟩)) | exact Or.inr (Or.inr (Or.inl ⟨rfl, by assumption⟩)) | exact Or.inr (Or.inr (Or.inr rfl)) | exact Or.inr (Or.inr rfl) | exact Or.inr rfl) EVx rfl (HP.set_same _ _ _) (by rw [List.length_set, rowT_len]; omega) rfl rfl ?_
    refine AW.nil ?_
    refine BQ.nm ?_
    refine TQ.nm ?_
    have l0 : letterT x (m - 1) (m - 1) = ins (t1 0 1) 1 (-1) := by
      unfold letterT
      rw [if_pos ⟨by omega, by omega⟩, if_pos hs]
    have l1 : letterT x (m - 1) m = t1 1 1 := by
      unfold letterT
      rw [if_neg (by omega), if_pos ⟨by omega, by omega⟩, if_pos hs]
    have l2 : letterT x m (m - 1) = t1 0 1 := by
      unfold letterT
      rw [if_neg (by omega), if_neg (by omega), if_pos ⟨by omega, by omega⟩, if_pos hs]
    have l3 : letterT x m m = tm0 := by
      unfold letterT
      rw [if_neg (by omega), if_neg (by omega), if_neg (by omega), if_pos ⟨by omega, by omega⟩, if_pos hs]
    refine CW.freezeMC (tk (m - 1)) (m - 1) (tk := ta) (m := mi (letterT x (m - 1) (m - 1))) ((HP.set_other _ _ hne).trans ((HP.set_other _ _ hne).trans (HP.set_same _ _ _))) (by rw [List.getElem?_set_ne (by omega), List.getElem?_set_self (by rw [rowT_len]; omega)]) (by rw [l0]; exact SBx) (r := (((rowT unitT n (m - 1)).set (m - 1) (.mref ta)).set m (.mref tb)).set (m - 1) (ptm (letterT x (m - 1) (m - 1)))) rfl ?_
    refine CW.freezeMC (tk (m - 1)) m (tk := tb) (m := mi (letterT x (m - 1) m)) (HP.set_same _ _ _) (by rw [List.getElem?_set_ne (by omega), List.getElem?_set_self (by rw [List.length_set, rowT_len]; omega)]) (by rw [l1]; exact SBx) (r := rowT (letterT x) n (m - 1)) (letter_row (by omega) (fun d _ d1 d2 => by unfold letterT; rw [if_neg (by omega), if_neg (by omega), if_neg (by omega), if_neg (by omega)])) ?_
    refine CW.freezeMC (tk m) (m - 1) (tk := tc) (m := mi (letterT x m (m - 1))) ((HP.set_other _ _ (Ne.symm hne)).trans ((HP.set_other _ _ (Ne.symm hne)).trans (HP.set_same _ _ _))) (by rw [List.getElem?_set_ne (by omega), List.getElem?_set_self (by rw [rowT_len]; omega)]) (by rw [l2]; exact SBx) (r := (((rowT unitT n m).set (m - 1) (.mref tc)).set m (.mref td)).set (m - 1) (ptm (letterT x m (m - 1)))) rfl ?_
    refine CW.freezeMC (tk m) m (tk := td) (m := mi (letterT x m m)) (HP.set_same _ _ _) (by rw [List.getElem?_set_ne (by omega), List.getElem?_set_self (by rw [List.length_set, rowT_len]; omega)]) (by rw [l3]; exact SBx) (r := rowT (letterT x) n m) (letter_row (by omega) (fun d _ d1 d2 => by unfold letterT; rw [if_neg (by omega), if_neg (by omega), if_neg (by omega), if_neg (by omega)])) ?_
    repeat (first | refine S0 ?_ | refine S1 ?_ | refine S2 ?_ | refine S3 ?_ | refine S4 ?_ | refine S5 ?_ | refine S6 ?_ | refine S7 ?_ | refine S8 ?_ | refine S10 ?_ | refine S13 ?_ | refine S15 ?_ | refine S16 ?_ | refine S19 ?_ | refine S20 ?_ | refine S21 ?_ | refine S22 ?_ | refine S23 ?_ | refine S25 ?_ | refine S26 ?_ | refine S27 ?_ | refine S30 ?_ | refine S33 ?_)
    refine ⟨i + 1, by omega, SLx, ?_, by omega⟩
    rw [if_neg (by omega)]
    refine letter_rows R ⟨by omega, by omega⟩ (show h1.next ≤ h1.next + 1024 by omega) ?_ ?_ (fun q _ _ q3 q4 => ?_)
    · rw [← hm]; exact (HP.set_other _ _ hne).trans ((HP.set_other _ _ hne).trans (HP.set_same _ _ _))
    · rw [← hm]; exact HP.set_same _ _ _
    · rw [← hm] at q3 q4
      exact (HP.set_other _ _ q4).trans ((HP.set_other _ _ q4).trans ((HP.set_other _ _ q3).trans ((HP.set_other _ _ q3).trans ((HP.set_other _ _ q4).trans ((HP.set_other _ _ q4).trans ((HP.set_other _ _ q3).trans (HP.set_other _ _ q3)))))))
  · obtain rfl : i = 1 := by omega
    repeat (first | refine S0 ?_ | refine S1 ?_ | refine S2 ?_ | refine S3 ?_ | refine S4 ?_ | refine S5 ?_ | refine S6 ?_ | refine S7 ?_ | refine S8 ?_ | refine S10 ?_ | refine S13 ?_ | refine S15 ?_ | refine S16 ?_ | refine S19 ?_ | refine S20 ?_ | refine S21 ?_ | refine S22 ?_ | refine S23 ?_ | refine S25 ?_ | refine S26 ?_ | refine S27 ?_ | refine S30 ?_ | refine S33 ?_)
    refine ⟨.inr rfl, ?_⟩
    rw [if_neg (by omega)] at R
    exact frzM R
end Go.Proofs.Ytenoiklocdoemaa
