/- permgroup: an element is added to the chain. No condition of its own. -/
import Derived.Test.YthacglggkgmbhaaGGroupOrbitsBI
set_option linter.unusedVariables false
set_option linter.unusedSimpArgs false
namespace Go.Proofs.Ythacglggkgmbhaa
open Go.RowKit

set_option maxHeartbeats 16000000 in
set_option maxRecDepth 100000 in
theorem add_step {n : Nat} (hn : n ≤ 9) {vt mt : Nat → Nat} {i0 : Nat} (hi0 : i0 ≤ n) (IH : ∀ i1, i0 < i1 → i1 ≤ n → AddC n vt mt i1) : AddC n vt mt i0 := by
  intro h et0 Ra Sa p H G hp hf
  have ks := sift_e hn H G hi0 hp hf
  refine SChE.go { rb := [26, 30, 33] } tok mixed Try.func49 rfl rfl Try.ntmps49 rfl rfl (by kernel_rfl) (fun hw => ?_)
  first | simp only [updS] | simp only [updL, Nat.reduceAdd]
  repeat (first | refine S0 ?_ | refine S1 ?_ | refine S2 ?_ | refine S3 ?_ | refine S4 ?_ | refine S5 ?_ | refine S6 ?_ | refine S7 ?_ | refine S8 ?_ | refine S9 ?_ | refine S10 ?_ | refine S11 ?_ | refine S13 ?_ | refine S15 ?_ | refine S16 ?_ | refine S19 ?_ | refine S20 ?_ | refine S23 ?_ | refine S25 ?_ | refine S28 ?_ | refine S32 ?_ | refine S33 ?_ | refine S34 ?_ | refine S45 ?_ | refine S46 ?_ | refine S49 ?_ | refine S63 ?_ | refine S65 ?_ | refine S67 ?_)
  refine Scalle (args := [chn n vt, pli (tabN n p), pint i0]) ks ?_
  rintro r h' ⟨rfl, i, q, rfl, s, hno⟩
  have hge := s.ge
  have hle := s.le
  by_cases c : i = n
  · subst c
    repeat (first | refine S0 ?_ | refine S1 ?_ | refine S2 ?_ | refine S3 ?_ | refine S4 ?_ | refine S5 ?_ | refine S6 ?_ | refine S7 ?_ | refine S8 ?_ | refine S9 ?_ | refine S10 ?_ | refine S11 ?_ | refine S13 ?_ | refine S15 ?_ | refine S16 ?_ | refine S19 ?_ | refine S20 ?_ | refine S23 ?_ | refine S25 ?_ | refine S28 ?_ | refine S32 ?_ | refine S33 ?_ | refine S34 ?_ | refine S45 ?_ | refine S46 ?_ | refine S49 ?_ | refine S63 ?_ | refine S65 ?_ | refine S67 ?_)
    exact ⟨.inr rfl, _, rfl, et0, Ra, Sa, H, AddP.none hn hi0 G hp hf s.full, fun _ _ => rfl⟩
  · have hin : i < n := by omega
    have hno := hno hin
    repeat (first | refine S0 ?_ | refine S1 ?_ | refine S2 ?_ | refine S3 ?_ | refine S4 ?_ | refine S5 ?_ | refine S6 ?_ | refine S7 ?_ | refine S8 ?_ | refine S9 ?_ | refine S10 ?_ | refine S11 ?_ | refine S13 ?_ | refine S15 ?_ | refine S16 ?_ | refine S19 ?_ | refine S20 ?_ | refine S23 ?_ | refine S25 ?_ | refine S28 ?_ | refine S32 ?_ | refine S33 ?_ | refine S34 ?_ | refine S45 ?_ | refine S46 ?_ | refine S49 ?_ | refine S63 ?_ | refine S65 ?_ | refine S67 ?_)
    refine CW.loopS (fun x : Nat × (Nat → Nat) × (Nat → List (Nat × Fn)) × (Nat → List Fn) => Ad n Ra Sa i q x.1 x.2.2.1 x.2.2.2 ∧ i0 ≤ x.1 ∧ x.1 ≤ i + 1 ∧ ∀ a, a < 2 * x.1 → x.2.1 a = et0 a) (fun x => [(0, chn n vt), (1, pli (tabN n q)), (2, pint i0), (6, pint ((x.1 : Int) - 1))])
      (fun x hp => CH n n vt mt x.2.1 x.2.2.1 x.2.2.2 hp) (fun x => x.1) (i + 1, et0, Ra, Sa) ⟨⟨Ad.start q hge G, by simp only; omega, Nat.le_refl _, fun _ _ => rfl⟩, by simp only; rw [show ((i + 1 : Nat) : Int) - 1 = (i : Int) by omega]; exact SLx, H⟩ ?_
    rintro ⟨x, et, R, S⟩ t hp' ⟨A, hx1, hx2, he⟩ H'
    simp only at A hx1 hx2 he H'
    first | simp only [updS] | simp only [updL, Nat.reduceAdd]
    by_cases hx : i0 < x
    · obtain ⟨j, rfl⟩ : ∃ j, x = j + 1 := ⟨x - 1, by omega⟩
      rw [show ((j + 1 : Nat) : Int) - 1 = (j : Int) by omega]
      have hj : j < n := by omega
      have hv := H'.v j hj
      have hg := H'.g j hj
      have hod := H'.od j hj
      have hev := H'.ev (2 * j) (by omega)
      have hvt := H'.ltv j hj
      have hqn := A.new hn G s hin hno (by omega) (by omega)
      obtain ⟨G1, L1⟩ := A.pre G s.pe s.fix (by omega) (by omega) hin
      have hsl : (S j).length ≤ 387420489 := fn_pigeon hn (H'.nd j hj) (fun g hg => by
        rw [A.lowS j (by omega)] at hg
        exact ((G.lv j (by omega) hj).s g hg).1)
      have hgl := gL_len n (S j)
      repeat (first | refine S0 ?_ | refine S1 ?_ | refine S2 ?_ | refine S3 ?_ | refine S4 ?_ | refine S5 ?_ | refine S6 ?_ | refine S7 ?_ | refine S8 ?_ | refine S9 ?_ | refine S10 ?_ | refine S11 ?_ | refine S13 ?_ | refine S15 ?_ | refine S16 ?_ | refine S19 ?_ | refine S20 ?_ | refine S23 ?_ | refine S25 ?_ | refine S28 ?_ | refine S32 ?_ | refine S33 ?_ | refine S34 ?_ | refine S45 ?_ | refine S46 ?_ | refine S49 ?_ | refine S63 ?_ | refine S65 ?_ | refine S67 ?_)
      refine AW.ldl EVx rfl (p := .ptr (vt j) 0) (chn_at hj) ?_
      repeat (first | refine S0 ?_ | refine S1 ?_ | refine S2 ?_ | refine S3 ?_ | refine S4 ?_ | refine S5 ?_ | refine S6 ?_ | refine S7 ?_ | refine S8 ?_ | refine S9 ?_ | refine S10 ?_ | refine S11 ?_ | refine S13 ?_ | refine S15 ?_ | refine S16 ?_ | refine S19 ?_ | refine S20 ?_ | refine S23 ?_ | refine S25 ?_ | refine S28 ?_ | refine S32 ?_ | refine S33 ?_ | refine S34 ?_ | refine S45 ?_ | refine S46 ?_ | refine S49 ?_ | refine S63 ?_ | refine S65 ?_ | refine S67 ?_)
      refine AW.ldl EVx rfl (p := .ptr (vt j) 0) (chn_at hj) ?_
      repeat (first | refine S0 ?_ | refine S1 ?_ | refine S2 ?_ | refine S3 ?_ | refine S4 ?_ | refine S5 ?_ | refine S6 ?_ | refine S7 ?_ | refine S8 ?_ | refine S9 ?_ | refine S10 ?_ | refine S11 ?_ | refine S13 ?_ | refine S15 ?_ | refine S16 ?_ | refine S19 ?_ | refine S20 ?_ | refine S23 ?_ | refine S25 ?_ | refine S28 ?_ | refine S32 ?_ | refine S33 ?_ | refine S34 ?_ | refine S45 ?_ | refine S46 ?_ | refine S49 ?_ | refine S63 ?_ | refine S65 ?_ | refine S67 ?_)
      have H1 : CH n n vt mt (ovr et (2 * j) (2 * hp'.next)) R (addS S j q) (((hp'.kill (et (2 * j))).add false (List.map (fun g => pli (tabN n g)) (S j ++ [q]))).set (vt j) [.ref (hp'.tok false) 0 1 ((S j).length + 1), .mref (mt j), .ref (et (2 * j + 1)) 0 1 (R j).length]) := H'.pushS hj q (HP.tokF _) hqn
      refine Scalle (args := [chn n vt, pint j]) (complete_e hn (IH (j + 1) (by omega) (by omega)) H1 hj G1 L1) ?_
      rintro r X ⟨et', R', S', H2, C2, e2⟩
      repeat (first | refine S0 ?_ | refine S1 ?_ | refine S2 ?_ | refine S3 ?_ | refine S4 ?_ | refine S5 ?_ | refine S6 ?_ | refine S7 ?_ | refine S8 ?_ | refine S9 ?_ | refine S10 ?_ | refine S11 ?_ | refine S13 ?_ | refine S15 ?_ | refine S16 ?_ | refine S19 ?_ | refine S20 ?_ | refine S23 ?_ | refine S25 ?_ | refine S28 ?_ | refine S32 ?_ | refine S33 ?_ | refine S34 ?_ | refine S45 ?_ | refine S46 ?_ | refine S49 ?_ | refine S63 ?_ | refine S65 ?_ | refine S67 ?_)
      exact ⟨(j, et', R', S'), ⟨A.next (by omega) C2, by simp only; omega, by simp only; omega, fun a ha => by simp only at ha ⊢; rw [e2 a ha, ovr_ne _ _ (by omega)]; exact he a (by omega)⟩, SLx, H2, by simp only; omega⟩
    · obtain rfl : x = i0 := by omega
      repeat (first | refine S0 ?_ | refine S1 ?_ | refine S2 ?_ | refine S3 ?_ | refine S4 ?_ | refine S5 ?_ | refine S6 ?_ | refine S7 ?_ | refine S8 ?_ | refine S9 ?_ | refine S10 ?_ | refine S11 ?_ | refine S13 ?_ | refine S15 ?_ | refine S16 ?_ | refine S19 ?_ | refine S20 ?_ | refine S23 ?_ | refine S25 ?_ | refine S28 ?_ | refine S32 ?_ | refine S33 ?_ | refine S34 ?_ | refine S45 ?_ | refine S46 ?_ | refine S49 ?_ | refine S63 ?_ | refine S65 ?_ | refine S67 ?_)
      exact ⟨.inl rfl, _, rfl, et, R, S, H', A.done hn G s, he⟩
theorem add_e {n : Nat} (hn : n ≤ 9) {vt mt : Nat → Nat} : ∀ (d i0 : Nat), n - i0 ≤ d → i0 ≤ n → AddC n vt mt i0
  | 0, i0, hd, hi => add_step hn hi (fun i1 h1 h2 => by omega)
  | d + 1, i0, hd, hi => add_step hn hi (fun i1 h1 h2 => add_e hn d i1 (by omega) h2)
end Go.Proofs.Ythacglggkgmbhaa
