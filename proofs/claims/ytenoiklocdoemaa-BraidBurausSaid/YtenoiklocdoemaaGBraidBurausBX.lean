/- braid.Burau: the Burau matrix, each element in memory of its own. No condition of its own. -/
import Derived.Test.YtenoiklocdoemaaGBraidBurausBW
import Derived.Test.YtenoiklocdoemaaGBraidBurausBN
set_option linter.unusedVariables false
set_option linter.unusedSimpArgs false
namespace Go.Proofs.Ytenoiklocdoemaa
open Go.RowKit

noncomputable def burauF (n : Int) (w : List Int) : Int := if bF n w ≠ 0 then bF n w else if 16 < w.length then 2 else 0
noncomputable def burR (n : Int) (w : List Int) : List (List Po) := if burauF n w = 0 then (List.range n.toNat).map (rowP (burM w) n.toNat) else []
theorem pos_nrm : ∀ l : List Po, (pos l).map PV.nrm0 = pos l
  | [] => rfl
  | p :: l => by
    rw [pos_cons, List.map_cons, List.map_cons, pos_nrm l]
    obtain ⟨a, b⟩ := p
    cases b <;> rfl
/-- a coefficient list is put back, in memory of its own -/
theorem pos_same {l : List Po} {c : Nat} (h : c < l.length) {xs : List Int} (hx : (l.getD c (0, [])).2 = xs) : ((pos l).set (c * 2 + 1) (.lst true 1 xs.length (ints xs))).map PV.nrm0 = pos l := by
  subst hx
  induction l generalizing c with
  | nil => simp at h
  | cons p l ih =>
    match c, h with
    | 0, _ =>
      show (pint p.1 :: PV.lst true 1 p.2.length (ints p.2) :: pos l).map PV.nrm0 = pos (p :: l)
      rw [List.map_cons, List.map_cons, pos_nrm l, pos_cons]
      obtain ⟨a, b⟩ := p
      cases b <;> rfl
    | c + 1, h =>
      rw [pos_cons, show (c + 1) * 2 + 1 = (c * 2 + 1) + 1 + 1 by omega, List.set_cons_succ, List.set_cons_succ, List.map_cons, List.map_cons, List.getD_cons_succ, ih (by simpa using h)]
      obtain ⟨a, b⟩ := p
      cases b <;> rfl
set_option maxHeartbeats 16000000 in
set_option maxRecDepth 100000 in
theorem burau_s (n : Int) (w : List Int) : SC Try.prog 6 [pint n, pli w] (.tup [ppss (burR n w), pint (burauF n w)]) := by
  have kc := bcheck_s n w
  refine SC.go {} tok mixed Try.func6 rfl rfl Try.ntmps6 rfl rfl (by kernel_rfl) ?_
  first | simp only [updS] | simp only [updL, Nat.reduceAdd]
  repeat (first | refine S0 ?_ | refine S1 ?_ | refine S2 ?_ | refine S4 ?_ | refine S5 ?_ | refine S6 ?_ | refine S7 ?_ | refine S8 ?_ | refine S9 ?_ | refine S10 ?_ | refine S11 ?_ | refine S13 ?_ | refine S15 ?_ | refine S16 ?_ | refine S19 ?_ | refine S20 ?_ | refine S21 ?_ | refine S22 ?_ | refine S23 ?_ | refine S24 ?_ | refine S27 ?_ | refine S29 ?_ | refine S30 ?_ | refine S45 ?_ | refine S46 ?_ | refine S66 ?_ | refine S68 ?_)
  refine Scall (args := [pint n, pli w]) kc ?_
  have hb1 : 0 ≤ bF n w ∧ bF n w ≤ 3 := by unfold bF; repeat' split
                                           all_goals omega
  by_cases h0 : bF n w ≠ 0
  · have e1 : burauF n w = bF n w := by unfold burauF; rw [if_pos h0]
    have e2 : burR n w = [] := by unfold burR; rw [if_neg (by rw [e1]; exact h0)]
    rw [e1, e2]
    generalize bF n w = f at *
    repeat (first | refine S0 ?_ | refine S1 ?_ | refine S2 ?_ | refine S4 ?_ | refine S5 ?_ | refine S6 ?_ | refine S7 ?_ | refine S8 ?_ | refine S9 ?_ | refine S10 ?_ | refine S11 ?_ | refine S13 ?_ | refine S15 ?_ | refine S16 ?_ | refine S19 ?_ | refine S20 ?_ | refine S21 ?_ | refine S22 ?_ | refine S23 ?_ | refine S24 ?_ | refine S27 ?_ | refine S29 ?_ | refine S30 ?_ | refine S45 ?_ | refine S46 ?_ | refine S66 ?_ | refine S68 ?_)
    exact ⟨.inr rfl, Fz.pair Fz.nil (.cl rfl)⟩
  · have h0' : bF n w = 0 := by omega
    have hwf : (1 ≤ n ∧ n ≤ 6) ∧ w.length ≤ 30 ∧ ∀ x ∈ w, letP n x := by
      unfold bF at h0'
      split at h0'
      · omega
      · split at h0'
        · omega
        · split at h0'
          · rename_i q1 q2 q3
            exact ⟨by omega, by omega, q3⟩
          · omega
    rw [h0']
    repeat (first | refine S0 ?_ | refine S1 ?_ | refine S2 ?_ | refine S4 ?_ | refine S5 ?_ | refine S6 ?_ | refine S7 ?_ | refine S8 ?_ | refine S9 ?_ | refine S10 ?_ | refine S11 ?_ | refine S13 ?_ | refine S15 ?_ | refine S16 ?_ | refine S19 ?_ | refine S20 ?_ | refine S21 ?_ | refine S22 ?_ | refine S23 ?_ | refine S24 ?_ | refine S27 ?_ | refine S29 ?_ | refine S30 ?_ | refine S45 ?_ | refine S46 ?_ | refine S66 ?_ | refine S68 ?_)
    by_cases h1 : 16 < w.length
    · have e1 : burauF n w = 2 := by unfold burauF; rw [if_neg (by rw [h0']; simp), if_pos h1]
      have e2 : burR n w = [] := by unfold burR; rw [if_neg (by rw [e1]; omega)]
      rw [e1, e2]
      repeat (first | refine S0 ?_ | refine S1 ?_ | refine S2 ?_ | refine S4 ?_ | refine S5 ?_ | refine S6 ?_ | refine S7 ?_ | refine S8 ?_ | refine S9 ?_ | refine S10 ?_ | refine S11 ?_ | refine S13 ?_ | refine S15 ?_ | refine S16 ?_ | refine S19 ?_ | refine S20 ?_ | refine S21 ?_ | refine S22 ?_ | refine S23 ?_ | refine S24 ?_ | refine S27 ?_ | refine S29 ?_ | refine S30 ?_ | refine S45 ?_ | refine S46 ?_ | refine S66 ?_ | refine S68 ?_)
      exact ⟨.inr rfl, Fz.pair Fz.nil (.cl rfl)⟩
    have e1 : burauF n w = 0 := by unfold burauF; rw [if_neg (by rw [h0']; simp), if_neg h1]
    obtain ⟨N, rfl⟩ : ∃ N : Nat, n = (N : Int) := ⟨n.toNat, by omega⟩
    have e2 : burR N w = (List.range N).map (rowP (burM w) N) := by unfold burR; rw [if_pos e1, Int.toNat_natCast]
    rw [e1, e2]
    repeat (first | refine S0 ?_ | refine S1 ?_ | refine S2 ?_ | refine S4 ?_ | refine S5 ?_ | refine S6 ?_ | refine S7 ?_ | refine S8 ?_ | refine S9 ?_ | refine S10 ?_ | refine S11 ?_ | refine S13 ?_ | refine S15 ?_ | refine S16 ?_ | refine S19 ?_ | refine S20 ?_ | refine S21 ?_ | refine S22 ?_ | refine S23 ?_ | refine S24 ?_ | refine S27 ?_ | refine S29 ?_ | refine S30 ?_ | refine S45 ?_ | refine S46 ?_ | refine S66 ?_ | refine S68 ?_)
    refine Scalle (args := [pint N, pli w]) (matrix_e (by omega) hwf.2.1 hwf.2.2 _) ?_
    rintro r h' ⟨T, tk, rfl, R, F⟩
    repeat (first | refine S0 ?_ | refine S1 ?_ | refine S2 ?_ | refine S4 ?_ | refine S5 ?_ | refine S6 ?_ | refine S7 ?_ | refine S8 ?_ | refine S9 ?_ | refine S10 ?_ | refine S11 ?_ | refine S13 ?_ | refine S15 ?_ | refine S16 ?_ | refine S19 ?_ | refine S20 ?_ | refine S21 ?_ | refine S22 ?_ | refine S23 ?_ | refine S24 ?_ | refine S27 ?_ | refine S29 ?_ | refine S30 ?_ | refine S45 ?_ | refine S46 ?_ | refine S66 ?_ | refine S68 ?_)
    have hsB : ∀ r c, Sup 30 (burM w r c) := fun r c => (burM_sup w r c).mono (by omega)
    obtain ⟨A, hA⟩ : ∃ A, A = burM w := ⟨_, rfl⟩
    rw [← hA] at R hsB ⊢
    have hTe := R.evT
    refine CW.loopS (fun r : Nat => r ≤ N) (fun r => [(7, .ref T 0 1 N), (24, .ref T 0 1 N), (25, pint N), (26, pint r)])
      (fun _ hp => Rows N N T tk (rowP A N) hp) (fun r => N - r) 0 ⟨Nat.zero_le _, SLx, R⟩ ?_
    rintro r t h1 hr R1
    first | simp only [updS] | simp only [updL, Nat.reduceAdd]
    by_cases hr2 : r < N
    · have b1 := R1.out
      repeat (first | refine S0 ?_ | refine S1 ?_ | refine S2 ?_ | refine S4 ?_ | refine S5 ?_ | refine S6 ?_ | refine S7 ?_ | refine S8 ?_ | refine S9 ?_ | refine S10 ?_ | refine S11 ?_ | refine S13 ?_ | refine S15 ?_ | refine S16 ?_ | refine S19 ?_ | refine S20 ?_ | refine S21 ?_ | refine S22 ?_ | refine S23 ?_ | refine S24 ?_ | refine S27 ?_ | refine S29 ?_ | refine S30 ?_ | refine S45 ?_ | refine S46 ?_ | refine S66 ?_ | refine S68 ?_)
      rw [show 0 + (r : Int).toNat * 1 = r by simp]
      refine AW.ldm EVx (by first | exact Or.inl rfl | exact Or.inr ⟨rfl, HP.tok_even _⟩ | exact Or.inr (Or.inl ⟨rfl, HP.tok_even _⟩) | exact Or.inr (Or.inr ⟨rfl, HP.tok_odd _⟩) | exact Or.inr (Or.inl rfl) | exact Or.inr (Or.inr (Or.inl rfl)) | exact Or.inr (Or.inr (Or.inr (Or.inl ⟨rfl, HP.tok_odd _⟩))) | exact Or.inr (Or.inr (Or.inr (Or.inr ⟨rfl, HP.tok_even _⟩))) | exact Or.inr (Or.inr (Or.inr (Or.inr ⟨rfl, by assumption⟩))) | exact Or.inr ⟨rfl, by assumption⟩ | exact Or.inr (Or.inl ⟨rfl, by assumption⟩) | exact Or.inr (Or.inr ⟨rfl, by assumption⟩) | exact Or.inr (Or.inr (Or.inr (Or.inl ⟨rfl, by assumption⟩))) | exact Or.inr (Or.inr (Or.inl ⟨rfl, HP.tok_odd _⟩)) | exact Or.inr (Or.inr (Or.inl ⟨rfl, by assumption⟩)) | exact Or.inr (Or.inr (Or.inr rfl)) | exact Or.inr (Or.inr rfl) | exact Or.inr rfl) rfl b1 (outC_get (k := N) hr2 hr2) ?_
      repeat (first | refine S0 ?_ | refine S1 ?_ | refine S2 ?_ | refine S4 ?_ | refine S5 ?_ | refine S6 ?_ | refine S7 ?_ | refine S8 ?_ | refine S9 ?_ | refine S10 ?_ | refine S11 ?_ | refine S13 ?_ | refine S15 ?_ | refine S16 ?_ | refine S19 ?_ | refine S20 ?_ | refine S21 ?_ | refine S22 ?_ | refine S23 ?_ | refine S24 ?_ | refine S27 ?_ | refine S29 ?_ | refine S30 ?_ | refine S45 ?_ | refine S46 ?_ | refine S66 ?_ | refine S68 ?_)
      refine CW.loopS (fun c : Nat => c ≤ N) (fun c => [(7, .ref T 0 1 N), (24, .ref T 0 1 N), (25, pint N), (26, pint r), (9, .ref (tk r) 0 2 N), (30, .ref (tk r) 0 2 N), (31, pint N), (32, pint c)])
        (fun _ hp => Rows N N T tk (rowP A N) hp) (fun c => N - c) 0 ⟨Nat.zero_le _, SLx, R1⟩ ?_
      clear b1 R1
      rintro c t h2 hc R2
      first | simp only [updS] | simp only [updL, Nat.reduceAdd]
      by_cases hc2 : c < N
      · have b2 := R2.row r hr2
        have hte := R2.ev r hr2
        have hlt := R2.lt r hr2
        repeat (first | refine S0 ?_ | refine S1 ?_ | refine S2 ?_ | refine S4 ?_ | refine S5 ?_ | refine S6 ?_ | refine S7 ?_ | refine S8 ?_ | refine S9 ?_ | refine S10 ?_ | refine S11 ?_ | refine S13 ?_ | refine S15 ?_ | refine S16 ?_ | refine S19 ?_ | refine S20 ?_ | refine S21 ?_ | refine S22 ?_ | refine S23 ?_ | refine S24 ?_ | refine S27 ?_ | refine S29 ?_ | refine S30 ?_ | refine S45 ?_ | refine S46 ?_ | refine S66 ?_ | refine S68 ?_)
        rw [show 0 + (c : Int).toNat * 2 = c * 2 by simp]
        obtain ⟨p, hp⟩ : ∃ p, p = poW (A r c) := ⟨_, rfl⟩
        have hpl : p.2.length ≤ 1000 := by have := poW_bd (hsB r c) (by omega); rw [hp]; omega
        refine AW.ldma (r := [pint p.1, pli p.2]) EVx (by first | exact Or.inl rfl | exact Or.inr ⟨rfl, HP.tok_even _⟩ | exact Or.inr (Or.inl ⟨rfl, HP.tok_even _⟩) | exact Or.inr (Or.inr ⟨rfl, HP.tok_odd _⟩) | exact Or.inr (Or.inl rfl) | exact Or.inr (Or.inr (Or.inl rfl)) | exact Or.inr (Or.inr (Or.inr (Or.inl ⟨rfl, HP.tok_odd _⟩))) | exact Or.inr (Or.inr (Or.inr (Or.inr ⟨rfl, HP.tok_even _⟩))) | exact Or.inr (Or.inr (Or.inr (Or.inr ⟨rfl, by assumption⟩))) | exact Or.inr ⟨rfl, by assumption⟩ | exact Or.inr (Or.inl ⟨rfl, by assumption⟩) | exact Or.inr (Or.inr ⟨rfl, by assumption⟩) | exact Or.inr (Or.inr (Or.inr (Or.inl ⟨rfl, by assumption⟩))) | exact Or.inr (Or.inr (Or.inl ⟨rfl, HP.tok_odd _⟩)) | exact Or.inr (Or.inr (Or.inl ⟨rfl, by assumption⟩)) | exact Or.inr (Or.inr (Or.inr rfl)) | exact Or.inr (Or.inr rfl) | exact Or.inr rfl) rfl b2 (by rw [pos_length, rowP_len]; omega) ((pos_at (by rw [rowP_len]; omega)).trans (by rw [rowP_get _ hc2, hp])) ?_
        repeat (first | refine S0 ?_ | refine S1 ?_ | refine S2 ?_ | refine S4 ?_ | refine S5 ?_ | refine S6 ?_ | refine S7 ?_ | refine S8 ?_ | refine S9 ?_ | refine S10 ?_ | refine S11 ?_ | refine S13 ?_ | refine S15 ?_ | refine S16 ?_ | refine S19 ?_ | refine S20 ?_ | refine S21 ?_ | refine S22 ?_ | refine S23 ?_ | refine S24 ?_ | refine S27 ?_ | refine S29 ?_ | refine S30 ?_ | refine S45 ?_ | refine S46 ?_ | refine S66 ?_ | refine S68 ?_)
        refine Scall (args := [pli p.2]) (clone_s p.2 (by omega)) ?_
        repeat (first | refine S0 ?_ | refine S1 ?_ | refine S2 ?_ | refine S4 ?_ | refine S5 ?_ | refine S6 ?_ | refine S7 ?_ | refine S8 ?_ | refine S9 ?_ | refine S10 ?_ | refine S11 ?_ | refine S13 ?_ | refine S15 ?_ | refine S16 ?_ | refine S19 ?_ | refine S20 ?_ | refine S21 ?_ | refine S22 ?_ | refine S23 ?_ | refine S24 ?_ | refine S27 ?_ | refine S29 ?_ | refine S30 ?_ | refine S45 ?_ | refine S46 ?_ | refine S66 ?_ | refine S68 ?_)
        refine Scall (args := [pli p.2]) (clip_s p.2) ?_
        repeat (first | refine S0 ?_ | refine S1 ?_ | refine S2 ?_ | refine S4 ?_ | refine S5 ?_ | refine S6 ?_ | refine S7 ?_ | refine S8 ?_ | refine S9 ?_ | refine S10 ?_ | refine S11 ?_ | refine S13 ?_ | refine S15 ?_ | refine S16 ?_ | refine S19 ?_ | refine S20 ?_ | refine S21 ?_ | refine S22 ?_ | refine S23 ?_ | refine S24 ?_ | refine S27 ?_ | refine S29 ?_ | refine S30 ?_ | refine S45 ?_ | refine S46 ?_ | refine S66 ?_ | refine S68 ?_)
        rw [show (c : Int).toNat * 2 + 1 = c * 2 + 1 by simp]
        have hb3 : ((h2.add true [.sc (.int .i64 0), .lst true 0 0 []]).set (h2.tok true) [.sc (.int .i64 p.1), pli p.2]).blk (tk r) = some (pos (rowP A N r)) := (HP.set_other _ _ (by rw [HP.tokT]; omega)).trans ((HP.add_other _ _ _ (by rw [HP.tokT]; omega)).trans b2)
        refine AW.stR (r := (pos (rowP A N r)).set (c * 2 + 1) (.lst true 1 p.2.length (ints p.2))) EVx (by first | exact Or.inl rfl | exact Or.inr ⟨rfl, HP.tok_even _⟩ | exact Or.inr (Or.inl ⟨rfl, HP.tok_even _⟩) | exact Or.inr (Or.inr ⟨rfl, HP.tok_odd _⟩) | exact Or.inr (Or.inl rfl) | exact Or.inr (Or.inr (Or.inl rfl)) | exact Or.inr (Or.inr (Or.inr (Or.inl ⟨rfl, HP.tok_odd _⟩))) | exact Or.inr (Or.inr (Or.inr (Or.inr ⟨rfl, HP.tok_even _⟩))) | exact Or.inr (Or.inr (Or.inr (Or.inr ⟨rfl, by assumption⟩))) | exact Or.inr ⟨rfl, by assumption⟩ | exact Or.inr (Or.inl ⟨rfl, by assumption⟩) | exact Or.inr (Or.inr ⟨rfl, by assumption⟩) | exact Or.inr (Or.inr (Or.inr (Or.inl ⟨rfl, by assumption⟩))) | exact Or.inr (Or.inr (Or.inl ⟨rfl, HP.tok_odd _⟩)) | exact Or.inr (Or.inr (Or.inl ⟨rfl, by assumption⟩)) | exact Or.inr (Or.inr (Or.inr rfl)) | exact Or.inr (Or.inr rfl) | exact Or.inr rfl) EVx rfl hb3 (by rw [pos_length, rowP_len]; omega) rfl rfl ?_
        refine AW.nil ?_
        refine BQ.nm ?_
        refine TQ.nm ?_
        refine CW.nrmB (tk r) (HP.set_same _ _ _) (pos_same (by rw [rowP_len]; exact hc2) (by rw [rowP_get _ hc2, hp])) ?_
        repeat (first | refine S0 ?_ | refine S1 ?_ | refine S2 ?_ | refine S4 ?_ | refine S5 ?_ | refine S6 ?_ | refine S7 ?_ | refine S8 ?_ | refine S9 ?_ | refine S10 ?_ | refine S11 ?_ | refine S13 ?_ | refine S15 ?_ | refine S16 ?_ | refine S19 ?_ | refine S20 ?_ | refine S21 ?_ | refine S22 ?_ | refine S23 ?_ | refine S24 ?_ | refine S27 ?_ | refine S29 ?_ | refine S30 ?_ | refine S45 ?_ | refine S46 ?_ | refine S66 ?_ | refine S68 ?_)
        refine ⟨c + 1, by omega, SLx, R2.keep (show h2.next ≤ h2.next + 1 by omega) (fun q hq hql => ?_), by omega⟩
        by_cases e : q = tk r
        · subst e; exact (HP.set_same _ _ _).trans b2.symm
        · exact (HP.set_other _ _ e).trans ((HP.set_other _ _ e).trans ((HP.set_other _ _ (by rw [HP.tokT]; omega)).trans (HP.add_other _ _ _ (by rw [HP.tokT]; omega))))
      · obtain rfl : c = N := by omega
        repeat (first | refine S0 ?_ | refine S1 ?_ | refine S2 ?_ | refine S4 ?_ | refine S5 ?_ | refine S6 ?_ | refine S7 ?_ | refine S8 ?_ | refine S9 ?_ | refine S10 ?_ | refine S11 ?_ | refine S13 ?_ | refine S15 ?_ | refine S16 ?_ | refine S19 ?_ | refine S20 ?_ | refine S21 ?_ | refine S22 ?_ | refine S23 ?_ | refine S24 ?_ | refine S27 ?_ | refine S29 ?_ | refine S30 ?_ | refine S45 ?_ | refine S46 ?_ | refine S66 ?_ | refine S68 ?_)
        exact ⟨r + 1, by omega, SLx, R2, by omega⟩
    · obtain rfl : r = N := by omega
      repeat (first | refine S0 ?_ | refine S1 ?_ | refine S2 ?_ | refine S4 ?_ | refine S5 ?_ | refine S6 ?_ | refine S7 ?_ | refine S8 ?_ | refine S9 ?_ | refine S10 ?_ | refine S11 ?_ | refine S13 ?_ | refine S15 ?_ | refine S16 ?_ | refine S19 ?_ | refine S20 ?_ | refine S21 ?_ | refine S22 ?_ | refine S23 ?_ | refine S24 ?_ | refine S27 ?_ | refine S29 ?_ | refine S30 ?_ | refine S45 ?_ | refine S46 ?_ | refine S66 ?_ | refine S68 ?_)
      refine ⟨.inr rfl, Fz.pair ?_ (.cl rfl)⟩
      unfold ppss
      rw [List.length_map, List.length_range]
      refine .ref (cs := outC r tk r) R1.out (by rw [outC_len]; omega) (by simp) (fun j hj => ?_)
      have hj' : j < r := by omega
      rw [Nat.zero_add, show (outC r tk r).getD j .junk = .ref (tk j) 0 2 r by rw [List.getD, outC_get hj' hj']; rfl, show (((List.range r).map (rowP A r)).map pps).getD j .junk = pps (rowP A r j) by simp [List.getD, hj']]
      unfold pps
      rw [rowP_len]
      exact Fz.refC (R1.row j hj') (by rw [pos_length, rowP_len]) (pos_cl _)
end Go.Proofs.Ytenoiklocdoemaa
