/- perm.cycles as a slice of the function's own; Clip and EqualFunc at lists of lists; lists. No condition of its own. -/
import Derived.Test.YtgjfpmjllpgadaaGTopCrossingsBR
import Derived.Test.YtgjfpmjllpgadaaGTopCrossingsBA
import Derived.Test.YtgjfpmjllpgadaaGTopCrossingsAT
import Derived.Test.YtgjfpmjllpgadaaGTopCrossingsAA
import Derived.Test.YtgjfpmjllpgadaaGTopCrossingsBI
import Derived.Test.YtgjfpmjllpgadaaGTopCrossingsBG
import Derived.Deep.QuietTactic
import Derived.BigQuiet
set_option linter.unusedVariables false
set_option linter.unusedSimpArgs false
namespace Go.Proofs.Ytgjfpmjllpgadaa
open Go.RowKit

set_option maxHeartbeats 4000000 in
set_option maxRecDepth 100000 in
theorem cycles_o {xs : List Int} (hr : InRange xs) (h9 : xs.length ≤ 9) : SCo Try.prog 115 [pli xs] 1 (cyclesOf xs).length ((cyclesOf xs).map plt) := by
  refine SCo.go {} tok mixed Try.func115 rfl rfl Try.ntmps115 rfl rfl (by kernel_rfl) ?_
  first | simp only [updS] | simp only [updL, Nat.reduceAdd]
  repeat (first | refine S0 ?_ | refine S1 ?_ | refine S2 ?_ | refine S3 ?_ | refine S4 ?_ | refine S5 ?_ | refine S6 ?_ | refine S7 ?_ | refine S8 ?_ | refine S9 ?_ | refine S10 ?_ | refine S11 ?_ | refine S12 ?_ | refine S13 ?_ | refine S14 ?_ | refine S15 ?_ | refine S16 ?_ | refine S17 ?_ ?_ | refine S18 ?_ | refine S19 ?_ | refine S20 ?_ | refine S21 ?_ | refine S22 ?_ | refine S23 ?_ | refine S24 ?_ | refine S25 ?_ | refine S26 ?_ | refine S27 ?_ | refine S28 ?_ | refine S29 ?_ | refine S30 ?_ | refine S31 ?_ | refine S32 ?_ | refine S33 ?_ | refine S34 ?_ | refine S35 ?_ | refine S36 ?_ | refine S37 ?_ | refine S38 ?_ | refine S39 ?_ | refine S40 ?_ | refine S41 ?_ | refine S42 ?_ | refine S43 ?_ | refine S44 ?_ | refine S45 ?_ | refine S46 ?_ | refine S47 ?_ | refine S48 ?_ | refine S49 ?_ | refine S50 ?_ | refine S51 ?_ | refine S52 ?_ | refine S53 ?_ | refine S54 ?_ | refine S55 ?_ | refine S56 ?_ | refine S57 ?_ | refine S58 ?_ | refine S59 ?_ | refine S60 ?_ | refine S61 ?_ | refine S62 ?_ | refine S63 ?_ | refine S64 ?_ | refine S65 ?_ | refine S66 ?_ | refine S67 ?_ | refine S68 ?_ | refine S69 ?_ | refine S70 ?_ | refine S71 ?_ | refine S72 ?_ | refine S73 ?_ | refine S74 ?_ | refine S75 ?_ | refine S76 ?_ | refine S77 ?_ | refine S78 ?_ | refine S79 ?_ | refine S80 ?_ | refine S81 ?_ | refine S82 ?_ | refine S83 ?_ | refine S84 ?_ | refine S85 ?_ | refine S86 ?_ | refine S87 ?_)
  refine CW.own 3 1 rfl ?_
  refine CW.loopS (fun i : Nat × Nat => i.1 ≤ xs.length ∧ i.2 ≠ 0 ∧ i.2 % 2 = 0) (fun i => [(0, pli xs), (3, .ref i.2 0 1 (cycAt xs i.1).1.length), (4, .ref 0 0 1 xs.length), (12, pint xs.length), (13, pint i.1)])
    (fun i hp => hp.blk 0 = some (bls xs.length (cycAt xs i.1).2) ∧ hp.blk i.2 = some ((cycAt xs i.1).1.map plt) ∧ 1 ≤ hp.next ∧ i.2 < 2 * hp.next) (fun i => xs.length - i.1) (0, 2) ⟨⟨Nat.zero_le _, by decide, rfl⟩, SLx, HBx, HBx, (by first | omega | (simp only [HP.tokF, HP.tokT, HP.next_add, HP.next_set, HP.next_kill, HP.next_H0, HP.next_addS, HP.next_setS, HP.next_killS, HP.next_put, HP.next_bump]; omega)), (by first | omega | (simp only [HP.tokF, HP.tokT, HP.next_add, HP.next_set, HP.next_kill, HP.next_H0, HP.next_addS, HP.next_setS, HP.next_killS, HP.next_put, HP.next_bump]; omega))⟩ ?_
  rintro ⟨k, to⟩ t h ⟨hk, ht0, ht2⟩ ⟨hB0, hB1, hnx, htl⟩
  simp only at hk ht0 ht2 hB0 hB1 htl
  first | simp only [updS] | simp only [updL, Nat.reduceAdd]
  have hcl := cycAt_len xs k
  by_cases hlt : k < xs.length
  · obtain ⟨cs0, hcs0⟩ : ∃ cs0, cs0 = (cycAt xs k).1 := ⟨_, rfl⟩
    obtain ⟨D0, hD0⟩ : ∃ D0, D0 = (cycAt xs k).2 := ⟨_, rfl⟩
    have hst := Wk.start hr hlt D0
    obtain ⟨R, hR⟩ : ∃ R, R = wk xs xs.length k D0 [] := ⟨_, rfl⟩
    have hdone : ∀ c D, R = (c, D) → (c ≠ [] → cycAt xs (k + 1) = (cs0 ++ [c], D)) ∧ (c = [] → cycAt xs (k + 1) = (cs0, D)) := fun c D e => by
      rw [hR, hD0] at e
      exact ⟨fun hc => by rw [hcs0]; exact cycAt_succ_some e hc, fun hc => by rw [hcs0]; exact cycAt_succ_none e hc⟩
    rw [← hR] at hst
    rw [← hcs0] at hB1 hcl ⊢
    rw [← hD0] at hB0
    repeat (first | refine S0 ?_ | refine S1 ?_ | refine S2 ?_ | refine S3 ?_ | refine S4 ?_ | refine S5 ?_ | refine S6 ?_ | refine S7 ?_ | refine S8 ?_ | refine S9 ?_ | refine S10 ?_ | refine S11 ?_ | refine S12 ?_ | refine S13 ?_ | refine S14 ?_ | refine S15 ?_ | refine S16 ?_ | refine S17 ?_ ?_ | refine S18 ?_ | refine S19 ?_ | refine S20 ?_ | refine S21 ?_ | refine S22 ?_ | refine S23 ?_ | refine S24 ?_ | refine S25 ?_ | refine S26 ?_ | refine S27 ?_ | refine S28 ?_ | refine S29 ?_ | refine S30 ?_ | refine S31 ?_ | refine S32 ?_ | refine S33 ?_ | refine S34 ?_ | refine S35 ?_ | refine S36 ?_ | refine S37 ?_ | refine S38 ?_ | refine S39 ?_ | refine S40 ?_ | refine S41 ?_ | refine S42 ?_ | refine S43 ?_ | refine S44 ?_ | refine S45 ?_ | refine S46 ?_ | refine S47 ?_ | refine S48 ?_ | refine S49 ?_ | refine S50 ?_ | refine S51 ?_ | refine S52 ?_ | refine S53 ?_ | refine S54 ?_ | refine S55 ?_ | refine S56 ?_ | refine S57 ?_ | refine S58 ?_ | refine S59 ?_ | refine S60 ?_ | refine S61 ?_ | refine S62 ?_ | refine S63 ?_ | refine S64 ?_ | refine S65 ?_ | refine S66 ?_ | refine S67 ?_ | refine S68 ?_ | refine S69 ?_ | refine S70 ?_ | refine S71 ?_ | refine S72 ?_ | refine S73 ?_ | refine S74 ?_ | refine S75 ?_ | refine S76 ?_ | refine S77 ?_ | refine S78 ?_ | refine S79 ?_ | refine S80 ?_ | refine S81 ?_ | refine S82 ?_ | refine S83 ?_ | refine S84 ?_ | refine S85 ?_ | refine S86 ?_ | refine S87 ?_)
    refine CW.own 6 1 rfl ?_
    refine CW.loopS (fun i : Nat × (Nat → Bool) × List Int × Nat => Wk xs i.1 i.2.1 i.2.2.1 R ∧ i.2.2.2 ≠ 0 ∧ i.2.2.2 ≠ to ∧ i.2.2.2 % 2 = 0) (fun i => [(0, pli xs), (3, .ref to 0 1 cs0.length), (4, .ref 0 0 1 xs.length), (6, .ref i.2.2.2 0 1 i.2.2.1.length), (7, pint i.1), (12, pint xs.length), (13, pint k)])
      (fun i hp => hp.blk 0 = some (bls xs.length i.2.1) ∧ hp.blk to = some (cs0.map plt) ∧ hp.blk i.2.2.2 = some (ints i.2.2.1) ∧ 1 ≤ hp.next ∧ to < 2 * hp.next) (fun i => freeN i.2.1 xs.length) (k, D0, [], 2 * h.next) ⟨⟨hst, by simp only; omega, by simp only; omega, by simp only; omega⟩, SLx, HBx, HBx, HBx, (by first | omega | (simp only [HP.tokF, HP.tokT, HP.next_add, HP.next_set, HP.next_kill, HP.next_H0, HP.next_addS, HP.next_setS, HP.next_killS, HP.next_put, HP.next_bump]; omega)), (by first | omega | (simp only [HP.tokF, HP.tokT, HP.next_add, HP.next_set, HP.next_kill, HP.next_H0, HP.next_addS, HP.next_setS, HP.next_killS, HP.next_put, HP.next_bump]; omega))⟩ ?_
    clear hst hB0 hB1 hnx htl
    clear t h
    rintro ⟨x, D, c, tc⟩ t h ⟨hwk, hc0, hc1, hc2⟩ ⟨hB0, hB1, hB2, hnx, htl⟩
    simp only at hwk hc0 hc1 hc2 hB0 hB1 hB2
    first | simp only [updS] | simp only [updL, Nat.reduceAdd]
    have hx := hwk.hx
    have hlen := hwk.len
    cases hDx : D x with
    | true =>
      obtain ⟨e1, e2⟩ := hdone c D (hwk.done hDx)
      repeat (first | refine S0 ?_ | refine S1 ?_ | refine S2 ?_ | refine S3 ?_ | refine S4 ?_ | refine S5 ?_ | refine S6 ?_ | refine S7 ?_ | refine S8 ?_ | refine S9 ?_ | refine S10 ?_ | refine S11 ?_ | refine S12 ?_ | refine S13 ?_ | refine S14 ?_ | refine S15 ?_ | refine S16 ?_ | refine S17 ?_ ?_ | refine S18 ?_ | refine S19 ?_ | refine S20 ?_ | refine S21 ?_ | refine S22 ?_ | refine S23 ?_ | refine S24 ?_ | refine S25 ?_ | refine S26 ?_ | refine S27 ?_ | refine S28 ?_ | refine S29 ?_ | refine S30 ?_ | refine S31 ?_ | refine S32 ?_ | refine S33 ?_ | refine S34 ?_ | refine S35 ?_ | refine S36 ?_ | refine S37 ?_ | refine S38 ?_ | refine S39 ?_ | refine S40 ?_ | refine S41 ?_ | refine S42 ?_ | refine S43 ?_ | refine S44 ?_ | refine S45 ?_ | refine S46 ?_ | refine S47 ?_ | refine S48 ?_ | refine S49 ?_ | refine S50 ?_ | refine S51 ?_ | refine S52 ?_ | refine S53 ?_ | refine S54 ?_ | refine S55 ?_ | refine S56 ?_ | refine S57 ?_ | refine S58 ?_ | refine S59 ?_ | refine S60 ?_ | refine S61 ?_ | refine S62 ?_ | refine S63 ?_ | refine S64 ?_ | refine S65 ?_ | refine S66 ?_ | refine S67 ?_ | refine S68 ?_ | refine S69 ?_ | refine S70 ?_ | refine S71 ?_ | refine S72 ?_ | refine S73 ?_ | refine S74 ?_ | refine S75 ?_ | refine S76 ?_ | refine S77 ?_ | refine S78 ?_ | refine S79 ?_ | refine S80 ?_ | refine S81 ?_ | refine S82 ?_ | refine S83 ?_ | refine S84 ?_ | refine S85 ?_ | refine S86 ?_ | refine S87 ?_)
      refine CW.freezeI (xs := c) 6 rfl HBx ?_
      by_cases hc : c.length = 0
      · obtain rfl : c = [] := List.length_eq_zero_iff.1 hc
        repeat (first | refine S0 ?_ | refine S1 ?_ | refine S2 ?_ | refine S3 ?_ | refine S4 ?_ | refine S5 ?_ | refine S6 ?_ | refine S7 ?_ | refine S8 ?_ | refine S9 ?_ | refine S10 ?_ | refine S11 ?_ | refine S12 ?_ | refine S13 ?_ | refine S14 ?_ | refine S15 ?_ | refine S16 ?_ | refine S17 ?_ ?_ | refine S18 ?_ | refine S19 ?_ | refine S20 ?_ | refine S21 ?_ | refine S22 ?_ | refine S23 ?_ | refine S24 ?_ | refine S25 ?_ | refine S26 ?_ | refine S27 ?_ | refine S28 ?_ | refine S29 ?_ | refine S30 ?_ | refine S31 ?_ | refine S32 ?_ | refine S33 ?_ | refine S34 ?_ | refine S35 ?_ | refine S36 ?_ | refine S37 ?_ | refine S38 ?_ | refine S39 ?_ | refine S40 ?_ | refine S41 ?_ | refine S42 ?_ | refine S43 ?_ | refine S44 ?_ | refine S45 ?_ | refine S46 ?_ | refine S47 ?_ | refine S48 ?_ | refine S49 ?_ | refine S50 ?_ | refine S51 ?_ | refine S52 ?_ | refine S53 ?_ | refine S54 ?_ | refine S55 ?_ | refine S56 ?_ | refine S57 ?_ | refine S58 ?_ | refine S59 ?_ | refine S60 ?_ | refine S61 ?_ | refine S62 ?_ | refine S63 ?_ | refine S64 ?_ | refine S65 ?_ | refine S66 ?_ | refine S67 ?_ | refine S68 ?_ | refine S69 ?_ | refine S70 ?_ | refine S71 ?_ | refine S72 ?_ | refine S73 ?_ | refine S74 ?_ | refine S75 ?_ | refine S76 ?_ | refine S77 ?_ | refine S78 ?_ | refine S79 ?_ | refine S80 ?_ | refine S81 ?_ | refine S82 ?_ | refine S83 ?_ | refine S84 ?_ | refine S85 ?_ | refine S86 ?_ | refine S87 ?_)
        refine ⟨(k + 1, to), ⟨by simp only; omega, ht0, ht2⟩, ?_, ⟨?_, ?_, hnx, htl⟩, by simp only; omega⟩
        · simp only; rw [e2 rfl]; exact SLx
        · simp only; rw [e2 rfl]; exact HBx
        · simp only; rw [e2 rfl]; exact HBx
      · have hc' : c ≠ [] := fun e => hc (by rw [e]; rfl)
        repeat (first | refine S0 ?_ | refine S1 ?_ | refine S2 ?_ | refine S3 ?_ | refine S4 ?_ | refine S5 ?_ | refine S6 ?_ | refine S7 ?_ | refine S8 ?_ | refine S9 ?_ | refine S10 ?_ | refine S11 ?_ | refine S12 ?_ | refine S13 ?_ | refine S14 ?_ | refine S15 ?_ | refine S16 ?_ | refine S17 ?_ ?_ | refine S18 ?_ | refine S19 ?_ | refine S20 ?_ | refine S21 ?_ | refine S22 ?_ | refine S23 ?_ | refine S24 ?_ | refine S25 ?_ | refine S26 ?_ | refine S27 ?_ | refine S28 ?_ | refine S29 ?_ | refine S30 ?_ | refine S31 ?_ | refine S32 ?_ | refine S33 ?_ | refine S34 ?_ | refine S35 ?_ | refine S36 ?_ | refine S37 ?_ | refine S38 ?_ | refine S39 ?_ | refine S40 ?_ | refine S41 ?_ | refine S42 ?_ | refine S43 ?_ | refine S44 ?_ | refine S45 ?_ | refine S46 ?_ | refine S47 ?_ | refine S48 ?_ | refine S49 ?_ | refine S50 ?_ | refine S51 ?_ | refine S52 ?_ | refine S53 ?_ | refine S54 ?_ | refine S55 ?_ | refine S56 ?_ | refine S57 ?_ | refine S58 ?_ | refine S59 ?_ | refine S60 ?_ | refine S61 ?_ | refine S62 ?_ | refine S63 ?_ | refine S64 ?_ | refine S65 ?_ | refine S66 ?_ | refine S67 ?_ | refine S68 ?_ | refine S69 ?_ | refine S70 ?_ | refine S71 ?_ | refine S72 ?_ | refine S73 ?_ | refine S74 ?_ | refine S75 ?_ | refine S76 ?_ | refine S77 ?_ | refine S78 ?_ | refine S79 ?_ | refine S80 ?_ | refine S81 ?_ | refine S82 ?_ | refine S83 ?_ | refine S84 ?_ | refine S85 ?_ | refine S86 ?_ | refine S87 ?_)
        refine Scall (args := [pli c]) (clip_s c) ?_
        repeat (first | refine S0 ?_ | refine S1 ?_ | refine S2 ?_ | refine S3 ?_ | refine S4 ?_ | refine S5 ?_ | refine S6 ?_ | refine S7 ?_ | refine S8 ?_ | refine S9 ?_ | refine S10 ?_ | refine S11 ?_ | refine S12 ?_ | refine S13 ?_ | refine S14 ?_ | refine S15 ?_ | refine S16 ?_ | refine S17 ?_ ?_ | refine S18 ?_ | refine S19 ?_ | refine S20 ?_ | refine S21 ?_ | refine S22 ?_ | refine S23 ?_ | refine S24 ?_ | refine S25 ?_ | refine S26 ?_ | refine S27 ?_ | refine S28 ?_ | refine S29 ?_ | refine S30 ?_ | refine S31 ?_ | refine S32 ?_ | refine S33 ?_ | refine S34 ?_ | refine S35 ?_ | refine S36 ?_ | refine S37 ?_ | refine S38 ?_ | refine S39 ?_ | refine S40 ?_ | refine S41 ?_ | refine S42 ?_ | refine S43 ?_ | refine S44 ?_ | refine S45 ?_ | refine S46 ?_ | refine S47 ?_ | refine S48 ?_ | refine S49 ?_ | refine S50 ?_ | refine S51 ?_ | refine S52 ?_ | refine S53 ?_ | refine S54 ?_ | refine S55 ?_ | refine S56 ?_ | refine S57 ?_ | refine S58 ?_ | refine S59 ?_ | refine S60 ?_ | refine S61 ?_ | refine S62 ?_ | refine S63 ?_ | refine S64 ?_ | refine S65 ?_ | refine S66 ?_ | refine S67 ?_ | refine S68 ?_ | refine S69 ?_ | refine S70 ?_ | refine S71 ?_ | refine S72 ?_ | refine S73 ?_ | refine S74 ?_ | refine S75 ?_ | refine S76 ?_ | refine S77 ?_ | refine S78 ?_ | refine S79 ?_ | refine S80 ?_ | refine S81 ?_ | refine S82 ?_ | refine S83 ?_ | refine S84 ?_ | refine S85 ?_ | refine S86 ?_ | refine S87 ?_)
        refine ⟨(k + 1, 2 * h.next), ⟨by simp only; omega, by simp only; omega, by simp only; omega⟩, ?_, ⟨?_, ?_, (by first | omega | (simp only [HP.tokF, HP.tokT, HP.next_add, HP.next_set, HP.next_kill, HP.next_H0, HP.next_addS, HP.next_setS, HP.next_killS, HP.next_put, HP.next_bump]; omega)), (by first | omega | (simp only [HP.tokF, HP.tokT, HP.next_add, HP.next_set, HP.next_kill, HP.next_H0, HP.next_addS, HP.next_setS, HP.next_killS, HP.next_put, HP.next_bump]; omega))⟩, by simp only; omega⟩
        · simp only; rw [e1 hc']; exact SLx
        · simp only; rw [e1 hc']; exact HBx
        · simp only; rw [e1 hc']; exact HBx
    | false =>
      obtain ⟨g1, g2⟩ := hwk.step hr hDx
      have hxr := hr x hx
      repeat (first | refine S0 ?_ | refine S1 ?_ | refine S2 ?_ | refine S3 ?_ | refine S4 ?_ | refine S5 ?_ | refine S6 ?_ | refine S7 ?_ | refine S8 ?_ | refine S9 ?_ | refine S10 ?_ | refine S11 ?_ | refine S12 ?_ | refine S13 ?_ | refine S14 ?_ | refine S15 ?_ | refine S16 ?_ | refine S17 ?_ ?_ | refine S18 ?_ | refine S19 ?_ | refine S20 ?_ | refine S21 ?_ | refine S22 ?_ | refine S23 ?_ | refine S24 ?_ | refine S25 ?_ | refine S26 ?_ | refine S27 ?_ | refine S28 ?_ | refine S29 ?_ | refine S30 ?_ | refine S31 ?_ | refine S32 ?_ | refine S33 ?_ | refine S34 ?_ | refine S35 ?_ | refine S36 ?_ | refine S37 ?_ | refine S38 ?_ | refine S39 ?_ | refine S40 ?_ | refine S41 ?_ | refine S42 ?_ | refine S43 ?_ | refine S44 ?_ | refine S45 ?_ | refine S46 ?_ | refine S47 ?_ | refine S48 ?_ | refine S49 ?_ | refine S50 ?_ | refine S51 ?_ | refine S52 ?_ | refine S53 ?_ | refine S54 ?_ | refine S55 ?_ | refine S56 ?_ | refine S57 ?_ | refine S58 ?_ | refine S59 ?_ | refine S60 ?_ | refine S61 ?_ | refine S62 ?_ | refine S63 ?_ | refine S64 ?_ | refine S65 ?_ | refine S66 ?_ | refine S67 ?_ | refine S68 ?_ | refine S69 ?_ | refine S70 ?_ | refine S71 ?_ | refine S72 ?_ | refine S73 ?_ | refine S74 ?_ | refine S75 ?_ | refine S76 ?_ | refine S77 ?_ | refine S78 ?_ | refine S79 ?_ | refine S80 ?_ | refine S81 ?_ | refine S82 ?_ | refine S83 ?_ | refine S84 ?_ | refine S85 ?_ | refine S86 ?_ | refine S87 ?_)
      refine ⟨((xs.getD x 0).toNat, mark D x, c ++ [(x : Int)], 2 * h.next), ⟨g1, by simp only; omega, by simp only; omega, by simp only; omega⟩, ?_, ⟨?_, HBx, HBx, (by first | omega | (simp only [HP.tokF, HP.tokT, HP.next_add, HP.next_set, HP.next_kill, HP.next_H0, HP.next_addS, HP.next_setS, HP.next_killS, HP.next_put, HP.next_bump]; omega)), (by first | omega | (simp only [HP.tokF, HP.tokT, HP.next_add, HP.next_set, HP.next_kill, HP.next_H0, HP.next_addS, HP.next_setS, HP.next_killS, HP.next_put, HP.next_bump]; omega))⟩, g2⟩
      · simp only
        rw [show (((xs.getD x 0).toNat : Nat) : Int) = xs.getD x 0 by omega]
        exact SLx
      · simp only
        rw [show bls xs.length (mark D x) = (bls xs.length D).set x (.sc (.bool true)) from (bls_set hx (if_pos rfl) (fun j hj => if_neg hj)).symm]
        exact HBx
  · obtain rfl : k = xs.length := by omega
    repeat (first | refine S0 ?_ | refine S1 ?_ | refine S2 ?_ | refine S3 ?_ | refine S4 ?_ | refine S5 ?_ | refine S6 ?_ | refine S7 ?_ | refine S8 ?_ | refine S9 ?_ | refine S10 ?_ | refine S11 ?_ | refine S12 ?_ | refine S13 ?_ | refine S14 ?_ | refine S15 ?_ | refine S16 ?_ | refine S17 ?_ ?_ | refine S18 ?_ | refine S19 ?_ | refine S20 ?_ | refine S21 ?_ | refine S22 ?_ | refine S23 ?_ | refine S24 ?_ | refine S25 ?_ | refine S26 ?_ | refine S27 ?_ | refine S28 ?_ | refine S29 ?_ | refine S30 ?_ | refine S31 ?_ | refine S32 ?_ | refine S33 ?_ | refine S34 ?_ | refine S35 ?_ | refine S36 ?_ | refine S37 ?_ | refine S38 ?_ | refine S39 ?_ | refine S40 ?_ | refine S41 ?_ | refine S42 ?_ | refine S43 ?_ | refine S44 ?_ | refine S45 ?_ | refine S46 ?_ | refine S47 ?_ | refine S48 ?_ | refine S49 ?_ | refine S50 ?_ | refine S51 ?_ | refine S52 ?_ | refine S53 ?_ | refine S54 ?_ | refine S55 ?_ | refine S56 ?_ | refine S57 ?_ | refine S58 ?_ | refine S59 ?_ | refine S60 ?_ | refine S61 ?_ | refine S62 ?_ | refine S63 ?_ | refine S64 ?_ | refine S65 ?_ | refine S66 ?_ | refine S67 ?_ | refine S68 ?_ | refine S69 ?_ | refine S70 ?_ | refine S71 ?_ | refine S72 ?_ | refine S73 ?_ | refine S74 ?_ | refine S75 ?_ | refine S76 ?_ | refine S77 ?_ | refine S78 ?_ | refine S79 ?_ | refine S80 ?_ | refine S81 ?_ | refine S82 ?_ | refine S83 ?_ | refine S84 ?_ | refine S85 ?_ | refine S86 ?_ | refine S87 ?_)
    exact ⟨.inr rfl, .ref hB1 (by simp) (by rw [List.drop_zero, List.take_of_length_le (by simp)]; rfl) (clL_mem.2 (fun c hc => by obtain ⟨x, _, rfl⟩ := List.mem_map.1 hc; exact plt_cl x))⟩
end Go.Proofs.Ytgjfpmjllpgadaa

/- Contracts of functions of this seat, and plain facts for them: used by the claims. No condition of its own. -/
set_option linter.unusedVariables false
set_option linter.unusedSimpArgs false
namespace Go.Proofs.Ytgjfpmjllpgadaa
open Go.RowKit

/-- The fault of the element at k. -/
def pfAt (xs : List Int) (k : Nat) : Int :=
  if xs.getD k 0 < 0 ∨ (xs.length : Int) ≤ xs.getD k 0 then 1 else if xs.getD k 0 ∈ xs.take k then 5 else 0
def permFault (xs : List Int) : Int := if 9 < xs.length then 2 else firstNZ (pfAt xs) xs.length

theorem pfAt_one {xs : List Int} {k : Nat} (hk : k < xs.length) (h : xs[k] < 0 ∨ (xs.length : Int) ≤ xs[k]) : pfAt xs k = 1 := by
  unfold pfAt; rw [getD_lt 0 hk, if_pos h]
theorem pfAt_five {xs : List Int} {k : Nat} (hk : k < xs.length) (h : 0 ≤ xs[k] ∧ xs[k] < (xs.length : Int)) (h5 : xs[k] ∈ xs.take k) : pfAt xs k = 5 := by
  unfold pfAt; rw [getD_lt 0 hk, if_neg (by omega), if_pos h5]
theorem pfAt_zero {xs : List Int} {k : Nat} (hk : k < xs.length) (h : 0 ≤ xs[k] ∧ xs[k] < (xs.length : Int)) (h5 : ¬ xs[k] ∈ xs.take k) : pfAt xs k = 0 := by
  unfold pfAt; rw [getD_lt 0 hk, if_neg (by omega), if_neg h5]
theorem pfAt_more {xs : List Int} {k : Nat} (h : ∀ j, j < k → pfAt xs j = 0) (h0 : pfAt xs k = 0) : ∀ j, j < k + 1 → pfAt xs j = 0 := by
  intro j hj
  by_cases e : j = k
  · subst e; exact h0
  · exact h j (by omega)
theorem permFault_at {xs : List Int} {k : Nat} {c : Int} (h9 : xs.length ≤ 9) (hk : k < xs.length) (h : ∀ j, j < k → pfAt xs j = 0) (hc : pfAt xs k = c) (h0 : c ≠ 0) : permFault xs = c := by
  unfold permFault; rw [if_neg (by omega), firstNZ_at hk h (by rw [hc]; exact h0), hc]
theorem permFault_ok {xs : List Int} (h9 : xs.length ≤ 9) (h : ∀ j, j < xs.length → pfAt xs j = 0) : permFault xs = 0 := by
  unfold permFault; rw [if_neg (by omega), firstNZ_zero h]

set_option maxHeartbeats 400000 in
theorem check_c (A : Option Addr) (cap : Nat) (xs : List Int) (w : World) (h : IsInts w A cap xs) :
    Calls Try.prog 110 #[.slice A xs.length cap] w fun e w' => e = .returned (.int .i64 (permFault xs)) ∧ w = w' := by
  have h1 := h.len
  have h2 := h.cap_le
  go_enter Try.func110, Try.ntmps110
  go_wp2
  · go_ret
    exact ⟨ret_int (by rw [permFault, if_pos (by omega)]), rfl⟩
  · go_loop [3, 4, 10] (fun _ _ i => ∃ k : Nat, k ≤ xs.length ∧ i = .int .i64 k ∧ ∀ j, j < k → pfAt xs j = 0) (fun _ _ i => xs.length - (intOf i).toNat)
    case atStart => exact ⟨0, Nat.zero_le _, rfl, fun j hj => absurd hj (by omega)⟩
    case round =>
      obtain ⟨k, hk, rfl, hz⟩ := hrel
      have HZ := Lib.hid hz
      clear hz
      by_cases hlt : k < xs.length
      · obtain ⟨b, o, rfl, _, hc⟩ := h.row (by intro e; simp [e] at hlt)
        have hck := hc k hlt
        clear hc
        have hbd := h.bd k hlt
        unfold in64 at hbd
        obtain ⟨hb1, hb2⟩ := hbd
        go_wp2_with (go_at_call 97; refine (slices_contains _ _ _ _ _ h k (by omega)).mono ?_; rintro e w' ⟨rfl, rfl⟩)
        · go_ret
          exact ⟨ret_int (permFault_at (by omega) hlt HZ.out (pfAt_one hlt ‹_›) (by omega)).symm, rfl⟩
        · go_ret
          exact ⟨ret_int (permFault_at (by omega) hlt HZ.out (pfAt_five hlt ‹_› ‹_›) (by omega)).symm, rfl⟩
        · go_round
          case rel => exact ⟨k + 1, by omega, by go_num, pfAt_more HZ.out (pfAt_zero hlt ‹_› ‹_›)⟩
          case measure => simp [intOf]; omega
        · go_ret
          exact ⟨ret_int (permFault_at (by omega) hlt HZ.out (pfAt_one hlt (.inl ‹_›)) (by omega)).symm, rfl⟩
      · go_wp2
        go_ret
        obtain rfl : k = xs.length := by omega
        exact ⟨ret_int (permFault_ok (by omega) HZ.out).symm, rfl⟩
end Go.Proofs.Ytgjfpmjllpgadaa

/- Contracts of functions of this seat, and plain facts for them: used by the claims. No condition of its own. -/
set_option linter.unusedVariables false
set_option linter.unusedSimpArgs false
namespace Go.Proofs.Ytgjfpmjllpgadaa
open Go.RowKit

set_option maxRecDepth 100000 in
set_option maxHeartbeats 1000000 in
theorem cycles_c (A : Option Addr) (cap : Nat) (xs : List Int) (w : World) (h : IsInts w A cap xs) (hr : InRange xs) (h9 : xs.length ≤ 9) :
    Calls Try.prog 115 #[.slice A xs.length cap] w fun e w' => ∃ v, e = .returned v ∧ OwnIntss w' w.heap.size 22 3 v (cyclesOf xs) ∧ Below w.heap.size w w' := by
  have h1 := h.len
  have h2 := h.cap_le
  have hmk := fun W => run_make_row' (P := Try.prog) 123 4 (.bool false) 1 Try.underlying123 info4 rfl .i64 .i64 xs.length (by omega) (by omega) W
  go_enter Try.func115, Try.ntmps115
  go_wp2
  go_loopw [3, 5, 6, 7, 13] (fun out _ _ _ i wr => ∃ k : Nat, k ≤ xs.length ∧ i = .int .i64 k ∧ OwnIntss wr w.heap.size 22 3 out (cycAt xs k).1 ∧ wr.rowIs w.heap.size 4 xs.length (fun j => .bool ((cycAt xs k).2 j)) ∧ Below w.heap.size w wr) (fun _ _ _ _ i _ => xs.length - (intOf i).toNat)
  case atStart => exact ⟨0, Nat.zero_le _, rfl, OwnIntss.nil _ _ _ _, World.rowIs_made _ _ _ _, (Below.refl _ _).alloc (Nat.le_refl _) _⟩
  case round =>
    obtain ⟨k, hk, rfl, hout, hrow, hb⟩ := hrel
    by_cases hlt : k < xs.length
    · obtain ⟨wo, rfl⟩ : ∃ wo : World, wo = wr := ⟨_, rfl⟩
      have hGo := hrow.lt
      go_wp2
      go_loopw [6, 7] (fun c x wi => ∃ (X : Nat) (D : Nat → Bool) (cs : List Int), x = .int .i64 X ∧ Wk xs X D cs (wk xs xs.length k (cycAt xs k).2 []) ∧ wi.ownsRow wo.heap.size 3 1 c cs.length (cs.map (Value.int .i64)) ∧ wi.rowIs w.heap.size 4 xs.length (fun j => .bool (D j)) ∧ wo.grownBy wi (some w.heap.size)) (fun c _ _ => xs.length - lenOf c)
      case atStart => exact ⟨k, _, [], rfl, Wk.start hr hlt _, World.ownsRow_nil _ _ _ _, hrow, World.grownBy.refl _ _⟩
      case round =>
        obtain ⟨X, D, cs, rfl, hwk, hown, hrow1, hg⟩ := hrel
        have hXl := hwk.hx
        have hcd := hrow1.cell hXl
        cases hD : D X
        · rw [hD] at hcd
          have hfz := hrow1.frozen X
          have hX9 : (X : Int) ≤ 9 := by omega
          obtain ⟨b, o, rfl, hbl, hc⟩ := h.row (by intro e; simp [e] at hlt)
          obtain ⟨Y, hY⟩ : ∃ Y : Nat, xs.getD X 0 = Y := ⟨(xs.getD X 0).toNat, by have := hr X hXl; omega⟩
          have hYl : Y < xs.length := by have := hr X hXl; omega
          have hcX := hc X hXl
          rw [hY] at hcX
          clear hc
          have hwsz := hg.size
          have hcs9 := hwk.len
          have hst := hwk.step hr hD
          have hdone := freeN_pos hD hXl
          rw [hY, Int.toNat_natCast] at hst
          have HY := Lib.hid hY
          clear hY
          have hown2 := (ownsRow_setCell_below hown (a := ⟨w.heap.size, X, none⟩) hGo (.bool true)).alloc (.cells #[.int .i64 X] 3)
          have hb2 : Below w.heap.size w ((wr.setCell ⟨w.heap.size, X, none⟩ (.bool true)).alloc (.cells #[.int .i64 X] 3)) :=
            ((hb.grown hg hb.size (fun j hj => by cases hj; exact Nat.le_refl _)).setCell (p := ⟨w.heap.size, X, none⟩) (Nat.le_refl _) _).alloc (by simp [World.setCell]; omega) _
          have hgr2 := grown_then_alloc (grown_then_store hg (p := ⟨w.heap.size, X, none⟩) (.inr rfl) (.bool true)) (.cells #[.int .i64 X] 3)
          have hrow2 := ((hrow1.set X (.bool true)).alloc (.cells #[.int .i64 X] 3)).congr (g := fun j => .bool (mark D X j)) (fun j _ => by simp only [mark]; split <;> rfl)
          go_wp2_with (first
            | ((with_reducible refine at_dst 32 ?_); refine wpList_append1 _ rfl _ _ 22 3 rfl el_int wo.heap.size _ cs.length (cs.map (Value.int .i64)) (by rfl) hown2 wr.heap.size 1 (by rfl) (.int .i64 X) (cell_new _ _ _ _ (by simp [World.setCell])) rfl (by omega) (by simp [World.setCell]; omega) ?_; intro v' w1 ho1 hg1 hb1 hat1 hnn1; have hcX1 : w1.cell? ⟨b, o + X, none⟩ = some (.int .i64 (Y : Int)) := ((hb1.cell (p := ⟨b, o + X, none⟩) (by show b < wo.heap.size; omega)).trans (hb2.cell (p := ⟨b, o + X, none⟩) hbl)).trans hcX))
          go_roundw
          case rel => exact ⟨Y, mark D X, cs ++ [(X : Int)], rfl, hst.1, by simpa using ho1, hrow2.of_block (hg1.block _ (by simp [World.setCell]; omega) (fun e => own_row_ne hown2 hrow2 (by decide) e.symm)), grown_then_below hgr2 hb1 (Nat.le_refl _)⟩
          case measure => rw [own_len ho1, own_len hown]; omega
        · rw [hD] at hcd
          have hR := Lib.hid (hwk.done hD)
          have hall := hwk.all
          have hcl := hwk.len
          have hsz := hg.size
          clear hwk
          obtain ⟨A', c', rfl, hI⟩ := ints_of_own hown (fun i hi => by have := hall i hi; unfold in64; omega)
          have hTy := BlkTy.of_own hown
          have hout2 := hout.kept hg (fun g hg' => by cases hg'; obtain ⟨cs', fr, hb'⟩ := row_ty hrow; exact ⟨cs', 4, fr, hb', by decide, by decide⟩)
          have hb2 : Below w.heap.size w wr := hb.grown hg hb.size (fun j hj => by cases hj; exact Nat.le_refl _)
          obtain ⟨vs, ho1, ho2⟩ := hout2
          have hyl : (cycAt xs k).1.length ≤ 9 := Nat.le_trans (cycAt_len xs k) (by omega)
          by_cases hcs : cs = []
          · subst hcs
            go_wp2
            go_roundw
            case rel => exact ⟨k + 1, by omega, by go_num, by rw [cycAt_succ_none hR.out rfl]; exact ⟨vs, ho1, ho2⟩, by rw [cycAt_succ_none hR.out rfl]; exact hrow1, hb2⟩
            case measure => simp [intOf]; omega
          · have hpos : 0 < cs.length := List.length_pos_iff.2 hcs
            have hI1 := hI.len
            have hI2 := hI.cap_le
            have ho3 := ho1.alloc (.cells #[.slice A' cs.length cs.length] 22)
            go_wp2_with (first
              | (go_at_call 75; refine (clip_c _ _ _ _ hI1 hI2).mono ?_; rintro e w' ⟨rfl, rfl⟩)
              | ((with_reducible refine at_dst 40 ?_); refine wpList_append1 _ rfl _ _ 61 22 rfl el_ints w.heap.size _ _ vs (by rfl) ho3 wr.heap.size 1 (by rfl) (.slice A' cs.length cs.length) (cell_new _ _ _ _ rfl) rfl (by omega) (by simp; omega) ?_; intro v' w1 ho4 hg1 hb1 hat1 hnn1))
            have hnew := OwnIntss.push ho3 (elems_alloc ho2 _) ((hI.recap (Nat.le_refl _) (by omega)).alloc _) (hTy.alloc _) (by decide) ho4 hg1
            go_roundw
            case rel => exact ⟨k + 1, by omega, by go_num, by rw [cycAt_succ_some hR.out hcs]; exact hnew, by rw [cycAt_succ_some hR.out hcs]; exact (hrow1.alloc _).of_block (hg1.block _ (by simp; omega) (fun e => own_row_ne ho3 (hrow1.alloc _) (by decide) e.symm)), (hb2.alloc (by omega) _).trans hb1⟩
            case measure => simp [intOf]; omega
    · go_wp2
      go_ret
      obtain rfl : k = xs.length := by omega
      exact ⟨_, rfl, hout, hb⟩
end Go.Proofs.Ytgjfpmjllpgadaa

/- Contracts of functions of this seat, and plain facts for them: used by the claims. No condition of its own. -/
set_option linter.unusedVariables false
set_option linter.unusedSimpArgs false
namespace Go.Proofs.Ytgjfpmjllpgadaa
open Go.RowKit

theorem permFault_range {xs : List Int} (h : permFault xs = 0) : xs.length ≤ 9 ∧ InRange xs ∧ xs.Nodup := by
  unfold permFault at h
  split at h
  · cases h
  · rename_i h9
    rw [firstNZ_zero_iff] at h
    refine ⟨by omega, fun i hi => ?_, ?_⟩
    · have := h i hi
      unfold pfAt at this
      split at this
      · cases this
      · omega
    · refine List.pairwise_iff_getElem.2 fun i j hi hj hij e => ?_
      have := h j hj
      unfold pfAt at this
      split at this
      · cases this
      · split at this
        · cases this
        · rename_i hm
          apply hm
          rw [getD_lt 0 hj, ← e]
          exact List.mem_iff_getElem.2 ⟨i, by simp; omega, by simp⟩

end Go.Proofs.Ytgjfpmjllpgadaa
