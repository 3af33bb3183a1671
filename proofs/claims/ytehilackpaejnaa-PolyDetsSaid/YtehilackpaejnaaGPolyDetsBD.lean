/- The reference's terms: Plus. No condition of its own. -/
import Derived.Test.YtehilackpaejnaaGPolyDetsAZ
import Derived.Test.YtehilackpaejnaaGPolyDetsBC
set_option linter.unusedVariables false
set_option linter.unusedSimpArgs false
namespace Go.Proofs.Ytehilackpaejnaa
open Go.RowKit

set_option maxHeartbeats 8000000 in
set_option maxRecDepth 100000 in
theorem tplus_s (a b : Tm) (k : Int) (B : Nat) (hk : k = 1 ∨ k = -1) (ha : ∀ e, (a e).isSome = true → -(B : Int) ≤ e ∧ e ≤ B) (hb : ∀ e, (b e).isSome = true → -(B : Int) ≤ e ∧ e ≤ B)
    (va : ∀ e, -4000000000000000000 ≤ tv a e ∧ tv a e ≤ 4000000000000000000) (vb : ∀ e, -4000000000000000000 ≤ tv b e ∧ tv b e ≤ 4000000000000000000) :
    SC Try.prog 15 [.fmap (mi a), .fmap (mi b), pint k] (.fmap (mi (tplus a b k))) := by
  refine SC.go {} tok mixed Try.func15 rfl rfl Try.ntmps15 rfl rfl (by kernel_rfl) ?_
  first | simp only [updS] | simp only [updL, Nat.reduceAdd]
  repeat (first | refine S0 ?_ | refine S1 ?_ | refine S2 ?_ | refine S3 ?_ | refine S4 ?_ | refine S5 ?_ | refine S6 ?_ | refine S7 ?_ | refine S8 ?_ | refine S9 ?_ | refine S10 ?_ | refine S11 ?_ | refine S12 ?_ | refine S13 ?_ | refine S14 ?_ | refine S15 ?_ | refine S16 ?_ | refine S17 ?_ ?_ | refine S18 ?_ | refine S19 ?_ | refine S20 ?_ | refine S21 ?_ | refine S22 ?_ | refine S23 ?_ | refine S24 ?_ | refine S25 ?_ | refine S26 ?_ | refine S27 ?_ | refine S28 ?_ | refine S29 ?_ | refine S30 ?_ | refine S31 ?_ | refine S32 ?_ | refine S33 ?_ | refine S34 ?_ | refine S35 ?_ | refine S36 ?_ | refine S37 ?_ | refine S38 ?_ | refine S39 ?_ | refine S40 ?_ | refine S41 ?_ | refine S42 ?_ | refine S43 ?_ | refine S44 ?_ | refine S45 ?_ | refine S46 ?_ | refine S47 ?_ | refine S48 ?_ | refine S49 ?_ | refine S50 ?_ | refine S51 ?_ | refine S52 ?_ | refine S53 ?_ | refine S54 ?_ | refine S55 ?_ | refine S56 ?_ | refine S57 ?_ | refine S58 ?_ | refine S59 ?_ | refine S60 ?_ | refine S61 ?_ | refine S62 ?_ | refine S63 ?_ | refine S64 ?_ | refine S65 ?_ | refine S66 ?_ | refine S67 ?_ | refine S68 ?_ | refine S69 ?_ | refine S70 ?_ | refine S71 ?_ | refine S72 ?_ | refine S73 ?_ | refine S74 ?_ | refine S75 ?_ | refine S76 ?_ | refine S77 ?_ | refine S78 ?_ | refine S79 ?_ | refine S80 ?_ | refine S81 ?_ | refine S82 ?_ | refine S83 ?_ | refine S84 ?_ | refine S85 ?_ | refine S86 ?_ | refine S87 ?_)
  refine CW.midB (fun _ : Unit => True) (fun _ => [(1, .fmap (mi b)), (2, pint k), (7, .mref 1)]) (fun _ hp => hp.next = 2 ∧ hp.sp 1 = some (.map (mi a))) ?_ ?_
  · refine CW.loopS (fun ps : List (Int × Int) => Enum a ps) (fun ps => [(1, .fmap (mi b)), (2, pint k), (7, .mref 1), (14, .itr 3)]) (fun ps hp => hp.next = 2 ∧ hp.sp 1 = some (.map (mi (lkp ps))) ∧ hp.sp 3 = some (.iter (mi a) (pvs ps))) (fun ps => 2 * B + 1 - ps.length) [] ⟨.nil a, SLx, rfl, ?_⟩ ?_
    · exact (by (try dsimp only); repeat' (first | exact HBx | exact SBx | refine And.intro ?_ ?_))
    rintro ps t h hE ⟨hN, h1, h3⟩
    first | simp only [updS] | simp only [updL, Nat.reduceAdd]
    refine CW.nextI rfl h3 ?_ ?_
    · intro hall
      rw [hE.full hall] at h1
      repeat (first | refine S0 ?_ | refine S1 ?_ | refine S2 ?_ | refine S3 ?_ | refine S4 ?_ | refine S5 ?_ | refine S6 ?_ | refine S7 ?_ | refine S8 ?_ | refine S9 ?_ | refine S10 ?_ | refine S11 ?_ | refine S12 ?_ | refine S13 ?_ | refine S14 ?_ | refine S15 ?_ | refine S16 ?_ | refine S17 ?_ ?_ | refine S18 ?_ | refine S19 ?_ | refine S20 ?_ | refine S21 ?_ | refine S22 ?_ | refine S23 ?_ | refine S24 ?_ | refine S25 ?_ | refine S26 ?_ | refine S27 ?_ | refine S28 ?_ | refine S29 ?_ | refine S30 ?_ | refine S31 ?_ | refine S32 ?_ | refine S33 ?_ | refine S34 ?_ | refine S35 ?_ | refine S36 ?_ | refine S37 ?_ | refine S38 ?_ | refine S39 ?_ | refine S40 ?_ | refine S41 ?_ | refine S42 ?_ | refine S43 ?_ | refine S44 ?_ | refine S45 ?_ | refine S46 ?_ | refine S47 ?_ | refine S48 ?_ | refine S49 ?_ | refine S50 ?_ | refine S51 ?_ | refine S52 ?_ | refine S53 ?_ | refine S54 ?_ | refine S55 ?_ | refine S56 ?_ | refine S57 ?_ | refine S58 ?_ | refine S59 ?_ | refine S60 ?_ | refine S61 ?_ | refine S62 ?_ | refine S63 ?_ | refine S64 ?_ | refine S65 ?_ | refine S66 ?_ | refine S67 ?_ | refine S68 ?_ | refine S69 ?_ | refine S70 ?_ | refine S71 ?_ | refine S72 ?_ | refine S73 ?_ | refine S74 ?_ | refine S75 ?_ | refine S76 ?_ | refine S77 ?_ | refine S78 ?_ | refine S79 ?_ | refine S80 ?_ | refine S81 ?_ | refine S82 ?_ | refine S83 ?_ | refine S84 ?_ | refine S85 ?_ | refine S86 ?_ | refine S87 ?_)
      exact ⟨(), trivial, SLx, hN, h1⟩
    · intro e c hc hfr
      have hin : in64 ((lkp ps e).getD 0 + c) := by
        have := va e
        unfold tv at this
        rw [hc] at this
        rw [lkp_fresh hfr]
        simp only [Option.getD_some, Option.getD_none] at this ⊢
        unfold in64; omega
      have hE2 := hE.snoc hc hfr
      have hl := hE2.len ha
      have hs := lkp_step (c := c) hfr
      simp only [List.length_append, List.length_cons, List.length_nil] at hl
      repeat (first | refine S0 ?_ | refine S1 ?_ | refine S2 ?_ | refine S3 ?_ | refine S4 ?_ | refine S5 ?_ | refine S6 ?_ | refine S7 ?_ | refine S8 ?_ | refine S9 ?_ | refine S10 ?_ | refine S11 ?_ | refine S12 ?_ | refine S13 ?_ | refine S14 ?_ | refine S15 ?_ | refine S16 ?_ | refine S17 ?_ ?_ | refine S18 ?_ | refine S19 ?_ | refine S20 ?_ | refine S21 ?_ | refine S22 ?_ | refine S23 ?_ | refine S24 ?_ | refine S25 ?_ | refine S26 ?_ | refine S27 ?_ | refine S28 ?_ | refine S29 ?_ | refine S30 ?_ | refine S31 ?_ | refine S32 ?_ | refine S33 ?_ | refine S34 ?_ | refine S35 ?_ | refine S36 ?_ | refine S37 ?_ | refine S38 ?_ | refine S39 ?_ | refine S40 ?_ | refine S41 ?_ | refine S42 ?_ | refine S43 ?_ | refine S44 ?_ | refine S45 ?_ | refine S46 ?_ | refine S47 ?_ | refine S48 ?_ | refine S49 ?_ | refine S50 ?_ | refine S51 ?_ | refine S52 ?_ | refine S53 ?_ | refine S54 ?_ | refine S55 ?_ | refine S56 ?_ | refine S57 ?_ | refine S58 ?_ | refine S59 ?_ | refine S60 ?_ | refine S61 ?_ | refine S62 ?_ | refine S63 ?_ | refine S64 ?_ | refine S65 ?_ | refine S66 ?_ | refine S67 ?_ | refine S68 ?_ | refine S69 ?_ | refine S70 ?_ | refine S71 ?_ | refine S72 ?_ | refine S73 ?_ | refine S74 ?_ | refine S75 ?_ | refine S76 ?_ | refine S77 ?_ | refine S78 ?_ | refine S79 ?_ | refine S80 ?_ | refine S81 ?_ | refine S82 ?_ | refine S83 ?_ | refine S84 ?_ | refine S85 ?_ | refine S86 ?_ | refine S87 ?_)
      refine ⟨ps ++ [(e, c)], hE2, SLx, ⟨hN, ?_, ?_⟩, by simp; omega⟩
      · dsimp only; rw [← hs]; exact SBx
      · exact SBx
  rintro ⟨⟩ t h _ ⟨hN, h1⟩
  first | simp only [updS] | simp only [updL, Nat.reduceAdd]
  have et : h.tok true = 5 := by rw [HP.tokT, hN]
  repeat (first | refine S0 ?_ | refine S1 ?_ | refine S2 ?_ | refine S3 ?_ | refine S4 ?_ | refine S5 ?_ | refine S6 ?_ | refine S7 ?_ | refine S8 ?_ | refine S9 ?_ | refine S10 ?_ | refine S11 ?_ | refine S12 ?_ | refine S13 ?_ | refine S14 ?_ | refine S15 ?_ | refine S16 ?_ | refine S17 ?_ ?_ | refine S18 ?_ | refine S19 ?_ | refine S20 ?_ | refine S21 ?_ | refine S22 ?_ | refine S23 ?_ | refine S24 ?_ | refine S25 ?_ | refine S26 ?_ | refine S27 ?_ | refine S28 ?_ | refine S29 ?_ | refine S30 ?_ | refine S31 ?_ | refine S32 ?_ | refine S33 ?_ | refine S34 ?_ | refine S35 ?_ | refine S36 ?_ | refine S37 ?_ | refine S38 ?_ | refine S39 ?_ | refine S40 ?_ | refine S41 ?_ | refine S42 ?_ | refine S43 ?_ | refine S44 ?_ | refine S45 ?_ | refine S46 ?_ | refine S47 ?_ | refine S48 ?_ | refine S49 ?_ | refine S50 ?_ | refine S51 ?_ | refine S52 ?_ | refine S53 ?_ | refine S54 ?_ | refine S55 ?_ | refine S56 ?_ | refine S57 ?_ | refine S58 ?_ | refine S59 ?_ | refine S60 ?_ | refine S61 ?_ | refine S62 ?_ | refine S63 ?_ | refine S64 ?_ | refine S65 ?_ | refine S66 ?_ | refine S67 ?_ | refine S68 ?_ | refine S69 ?_ | refine S70 ?_ | refine S71 ?_ | refine S72 ?_ | refine S73 ?_ | refine S74 ?_ | refine S75 ?_ | refine S76 ?_ | refine S77 ?_ | refine S78 ?_ | refine S79 ?_ | refine S80 ?_ | refine S81 ?_ | refine S82 ?_ | refine S83 ?_ | refine S84 ?_ | refine S85 ?_ | refine S86 ?_ | refine S87 ?_)
  refine CW.loopS (fun qs : List (Int × Int) => Enum b qs) (fun qs => [(2, pint k), (7, .mref 1), (26, .itr 5)]) (fun qs hp => hp.sp 1 = some (.map (mi (tplus a (lkp qs) k))) ∧ hp.sp 5 = some (.iter (mi b) (pvs qs))) (fun qs => 2 * B + 1 - qs.length) [] ⟨.nil b, ?_, ?_⟩ ?_
  · rw [et]; exact SLx
  · dsimp only
    rw [lkp_nil, tplus_none]
    refine ⟨SBx, ?_⟩
    rw [← et]; exact HP.addS_same _ _ _
  clear et h1 hN t h
  rintro qs t h hE ⟨h1, h5⟩
  first | simp only [updS] | simp only [updL, Nat.reduceAdd]
  refine CW.nextI rfl h5 ?_ ?_
  · intro hall
    rw [hE.full hall] at h1
    repeat (first | refine S0 ?_ | refine S1 ?_ | refine S2 ?_ | refine S3 ?_ | refine S4 ?_ | refine S5 ?_ | refine S6 ?_ | refine S7 ?_ | refine S8 ?_ | refine S9 ?_ | refine S10 ?_ | refine S11 ?_ | refine S12 ?_ | refine S13 ?_ | refine S14 ?_ | refine S15 ?_ | refine S16 ?_ | refine S17 ?_ ?_ | refine S18 ?_ | refine S19 ?_ | refine S20 ?_ | refine S21 ?_ | refine S22 ?_ | refine S23 ?_ | refine S24 ?_ | refine S25 ?_ | refine S26 ?_ | refine S27 ?_ | refine S28 ?_ | refine S29 ?_ | refine S30 ?_ | refine S31 ?_ | refine S32 ?_ | refine S33 ?_ | refine S34 ?_ | refine S35 ?_ | refine S36 ?_ | refine S37 ?_ | refine S38 ?_ | refine S39 ?_ | refine S40 ?_ | refine S41 ?_ | refine S42 ?_ | refine S43 ?_ | refine S44 ?_ | refine S45 ?_ | refine S46 ?_ | refine S47 ?_ | refine S48 ?_ | refine S49 ?_ | refine S50 ?_ | refine S51 ?_ | refine S52 ?_ | refine S53 ?_ | refine S54 ?_ | refine S55 ?_ | refine S56 ?_ | refine S57 ?_ | refine S58 ?_ | refine S59 ?_ | refine S60 ?_ | refine S61 ?_ | refine S62 ?_ | refine S63 ?_ | refine S64 ?_ | refine S65 ?_ | refine S66 ?_ | refine S67 ?_ | refine S68 ?_ | refine S69 ?_ | refine S70 ?_ | refine S71 ?_ | refine S72 ?_ | refine S73 ?_ | refine S74 ?_ | refine S75 ?_ | refine S76 ?_ | refine S77 ?_ | refine S78 ?_ | refine S79 ?_ | refine S80 ?_ | refine S81 ?_ | refine S82 ?_ | refine S83 ?_ | refine S84 ?_ | refine S85 ?_ | refine S86 ?_ | refine S87 ?_)
    exact ⟨.inr rfl, .mref h1⟩
  · intro e c hc hfr
    have hv := vb e
    unfold tv at hv
    rw [hc] at hv
    simp only [Option.getD_some] at hv
    have hin0 : in64 (k * c) := by unfold in64; rcases hk with rfl | rfl <;> omega
    have hin : in64 ((tplus a (lkp qs) k e).getD 0 + k * c) := by
      have h0 := tv_plus a (lkp qs) k e
      have h2 := va e
      rw [show tv (lkp qs) e = 0 by unfold tv; rw [lkp_fresh hfr]; rfl, Int.mul_zero, Int.add_zero] at h0
      rw [show (tplus a (lkp qs) k e).getD 0 = tv a e from h0]
      unfold in64; rcases hk with rfl | rfl <;> omega
    have hE2 := hE.snoc hc hfr
    have hl := hE2.len hb
    have hs := tplus_step (a := a) (k := k) (c := c) hfr
    simp only [List.length_append, List.length_cons, List.length_nil] at hl
    repeat (first | refine S0 ?_ | refine S1 ?_ | refine S2 ?_ | refine S3 ?_ | refine S4 ?_ | refine S5 ?_ | refine S6 ?_ | refine S7 ?_ | refine S8 ?_ | refine S9 ?_ | refine S10 ?_ | refine S11 ?_ | refine S12 ?_ | refine S13 ?_ | refine S14 ?_ | refine S15 ?_ | refine S16 ?_ | refine S17 ?_ ?_ | refine S18 ?_ | refine S19 ?_ | refine S20 ?_ | refine S21 ?_ | refine S22 ?_ | refine S23 ?_ | refine S24 ?_ | refine S25 ?_ | refine S26 ?_ | refine S27 ?_ | refine S28 ?_ | refine S29 ?_ | refine S30 ?_ | refine S31 ?_ | refine S32 ?_ | refine S33 ?_ | refine S34 ?_ | refine S35 ?_ | refine S36 ?_ | refine S37 ?_ | refine S38 ?_ | refine S39 ?_ | refine S40 ?_ | refine S41 ?_ | refine S42 ?_ | refine S43 ?_ | refine S44 ?_ | refine S45 ?_ | refine S46 ?_ | refine S47 ?_ | refine S48 ?_ | refine S49 ?_ | refine S50 ?_ | refine S51 ?_ | refine S52 ?_ | refine S53 ?_ | refine S54 ?_ | refine S55 ?_ | refine S56 ?_ | refine S57 ?_ | refine S58 ?_ | refine S59 ?_ | refine S60 ?_ | refine S61 ?_ | refine S62 ?_ | refine S63 ?_ | refine S64 ?_ | refine S65 ?_ | refine S66 ?_ | refine S67 ?_ | refine S68 ?_ | refine S69 ?_ | refine S70 ?_ | refine S71 ?_ | refine S72 ?_ | refine S73 ?_ | refine S74 ?_ | refine S75 ?_ | refine S76 ?_ | refine S77 ?_ | refine S78 ?_ | refine S79 ?_ | refine S80 ?_ | refine S81 ?_ | refine S82 ?_ | refine S83 ?_ | refine S84 ?_ | refine S85 ?_ | refine S86 ?_ | refine S87 ?_)
    refine ⟨qs ++ [(e, c)], hE2, SLx, ⟨?_, ?_⟩, by simp; omega⟩
    · dsimp only; rw [← hs]; exact SBx
    · exact SBx
end Go.Proofs.Ytehilackpaejnaa

/- The reference's terms: Mul. No condition of its own. -/
set_option linter.unusedVariables false
set_option linter.unusedSimpArgs false
namespace Go.Proofs.Ytehilackpaejnaa
open Go.RowKit

set_option maxHeartbeats 8000000 in
set_option maxRecDepth 100000 in
theorem tmul_s (a b : Tm) (B NA : Nat) (A Ab : Int) (hB : B ≤ 1000000) (ha : ∀ e, (a e).isSome = true → -(B : Int) ≤ e ∧ e ≤ B) (hb : ∀ e, (b e).isSome = true → -(B : Int) ≤ e ∧ e ≤ B) (hNA : ∀ ps, Enum a ps → ps.length ≤ NA)
    (va : ∀ e, -A ≤ tv a e ∧ tv a e ≤ A) (vb : ∀ e, -Ab ≤ tv b e ∧ tv b e ≤ Ab) (hbd : NA * (A * Ab) ≤ 9000000000000000000) :
    SC Try.prog 18 [.fmap (mi a), .fmap (mi b)] (.fmap (mi (tmul a b))) := by
  have hAA : 0 ≤ A * Ab := by
    have h1 := va 0
    have h2 := vb 0
    exact Int.mul_nonneg (by omega) (by omega)
  refine SC.go {} tok mixed Try.func18 rfl rfl Try.ntmps18 rfl rfl (by kernel_rfl) ?_
  first | simp only [updS] | simp only [updL, Nat.reduceAdd]
  repeat (first | refine S0 ?_ | refine S1 ?_ | refine S2 ?_ | refine S3 ?_ | refine S4 ?_ | refine S5 ?_ | refine S6 ?_ | refine S7 ?_ | refine S8 ?_ | refine S9 ?_ | refine S10 ?_ | refine S11 ?_ | refine S12 ?_ | refine S13 ?_ | refine S14 ?_ | refine S15 ?_ | refine S16 ?_ | refine S17 ?_ ?_ | refine S18 ?_ | refine S19 ?_ | refine S20 ?_ | refine S21 ?_ | refine S22 ?_ | refine S23 ?_ | refine S24 ?_ | refine S25 ?_ | refine S26 ?_ | refine S27 ?_ | refine S28 ?_ | refine S29 ?_ | refine S30 ?_ | refine S31 ?_ | refine S32 ?_ | refine S33 ?_ | refine S34 ?_ | refine S35 ?_ | refine S36 ?_ | refine S37 ?_ | refine S38 ?_ | refine S39 ?_ | refine S40 ?_ | refine S41 ?_ | refine S42 ?_ | refine S43 ?_ | refine S44 ?_ | refine S45 ?_ | refine S46 ?_ | refine S47 ?_ | refine S48 ?_ | refine S49 ?_ | refine S50 ?_ | refine S51 ?_ | refine S52 ?_ | refine S53 ?_ | refine S54 ?_ | refine S55 ?_ | refine S56 ?_ | refine S57 ?_ | refine S58 ?_ | refine S59 ?_ | refine S60 ?_ | refine S61 ?_ | refine S62 ?_ | refine S63 ?_ | refine S64 ?_ | refine S65 ?_ | refine S66 ?_ | refine S67 ?_ | refine S68 ?_ | refine S69 ?_ | refine S70 ?_ | refine S71 ?_ | refine S72 ?_ | refine S73 ?_ | refine S74 ?_ | refine S75 ?_ | refine S76 ?_ | refine S77 ?_ | refine S78 ?_ | refine S79 ?_ | refine S80 ?_ | refine S81 ?_ | refine S82 ?_ | refine S83 ?_ | refine S84 ?_ | refine S85 ?_ | refine S86 ?_ | refine S87 ?_)
  refine CW.loopS (fun ps : List (Int × Int) => Enum a ps) (fun ps => [(1, .fmap (mi b)), (5, .mref 1), (12, .itr 3)]) (fun ps hp => 2 ≤ hp.next ∧ hp.sp 1 = some (.map (mi (gM b ps))) ∧ hp.sp 3 = some (.iter (mi a) (pvs ps))) (fun ps => 2 * B + 1 - ps.length) [] ⟨.nil a, SLx, Nat.le_refl _, ?_⟩ ?_
  · exact (by (try dsimp only); repeat' (first | exact HBx | exact SBx | refine And.intro ?_ ?_))
  rintro ps t h hE ⟨hN, h1, h3⟩
  first | simp only [updS] | simp only [updL, Nat.reduceAdd]
  refine CW.nextI rfl h3 ?_ ?_
  · intro hall
    repeat (first | refine S0 ?_ | refine S1 ?_ | refine S2 ?_ | refine S3 ?_ | refine S4 ?_ | refine S5 ?_ | refine S6 ?_ | refine S7 ?_ | refine S8 ?_ | refine S9 ?_ | refine S10 ?_ | refine S11 ?_ | refine S12 ?_ | refine S13 ?_ | refine S14 ?_ | refine S15 ?_ | refine S16 ?_ | refine S17 ?_ ?_ | refine S18 ?_ | refine S19 ?_ | refine S20 ?_ | refine S21 ?_ | refine S22 ?_ | refine S23 ?_ | refine S24 ?_ | refine S25 ?_ | refine S26 ?_ | refine S27 ?_ | refine S28 ?_ | refine S29 ?_ | refine S30 ?_ | refine S31 ?_ | refine S32 ?_ | refine S33 ?_ | refine S34 ?_ | refine S35 ?_ | refine S36 ?_ | refine S37 ?_ | refine S38 ?_ | refine S39 ?_ | refine S40 ?_ | refine S41 ?_ | refine S42 ?_ | refine S43 ?_ | refine S44 ?_ | refine S45 ?_ | refine S46 ?_ | refine S47 ?_ | refine S48 ?_ | refine S49 ?_ | refine S50 ?_ | refine S51 ?_ | refine S52 ?_ | refine S53 ?_ | refine S54 ?_ | refine S55 ?_ | refine S56 ?_ | refine S57 ?_ | refine S58 ?_ | refine S59 ?_ | refine S60 ?_ | refine S61 ?_ | refine S62 ?_ | refine S63 ?_ | refine S64 ?_ | refine S65 ?_ | refine S66 ?_ | refine S67 ?_ | refine S68 ?_ | refine S69 ?_ | refine S70 ?_ | refine S71 ?_ | refine S72 ?_ | refine S73 ?_ | refine S74 ?_ | refine S75 ?_ | refine S76 ?_ | refine S77 ?_ | refine S78 ?_ | refine S79 ?_ | refine S80 ?_ | refine S81 ?_ | refine S82 ?_ | refine S83 ?_ | refine S84 ?_ | refine S85 ?_ | refine S86 ?_ | refine S87 ?_)
    rw [tmul_eq hE hall]
    exact ⟨.inr rfl, .mref h1⟩
  · intro e c hc hfr
    have hE2 := hE.snoc hc hfr
    have hl := hE2.len ha
    have hl2 := hNA _ hE2
    have hc2 : -A ≤ c ∧ c ≤ A := by
      have := va e
      unfold tv at this
      rwa [hc] at this
    have hbe := ha e (by rw [hc]; rfl)
    simp only [List.length_append, List.length_cons, List.length_nil] at hl hl2
    have hlK : ((ps.length : Int) + 1) * (A * Ab) ≤ 9000000000000000000 := Int.le_trans (Int.mul_le_mul_of_nonneg_right (by omega) hAA) hbd
    rw [Int.add_mul, Int.one_mul] at hlK
    have hg := gM_bd (b := b) (ps := ps) (A := A) (B := Ab) (fun y hy => by have := va y.1; unfold tv at this; rw [hE.1 y hy] at this; exact this) vb
    obtain ⟨tk, htk⟩ : ∃ tk, tk = (h.setS 3 (.iter (mi a) (pvs (ps ++ [(e, c)])))).tok true := ⟨_, rfl⟩
    have htk2 : tk ≠ 1 ∧ tk ≠ 3 := by rw [htk, HP.tokT, HP.next_setS]; omega
    repeat (first | refine S0 ?_ | refine S1 ?_ | refine S2 ?_ | refine S3 ?_ | refine S4 ?_ | refine S5 ?_ | refine S6 ?_ | refine S7 ?_ | refine S8 ?_ | refine S9 ?_ | refine S10 ?_ | refine S11 ?_ | refine S12 ?_ | refine S13 ?_ | refine S14 ?_ | refine S15 ?_ | refine S16 ?_ | refine S17 ?_ ?_ | refine S18 ?_ | refine S19 ?_ | refine S20 ?_ | refine S21 ?_ | refine S22 ?_ | refine S23 ?_ | refine S24 ?_ | refine S25 ?_ | refine S26 ?_ | refine S27 ?_ | refine S28 ?_ | refine S29 ?_ | refine S30 ?_ | refine S31 ?_ | refine S32 ?_ | refine S33 ?_ | refine S34 ?_ | refine S35 ?_ | refine S36 ?_ | refine S37 ?_ | refine S38 ?_ | refine S39 ?_ | refine S40 ?_ | refine S41 ?_ | refine S42 ?_ | refine S43 ?_ | refine S44 ?_ | refine S45 ?_ | refine S46 ?_ | refine S47 ?_ | refine S48 ?_ | refine S49 ?_ | refine S50 ?_ | refine S51 ?_ | refine S52 ?_ | refine S53 ?_ | refine S54 ?_ | refine S55 ?_ | refine S56 ?_ | refine S57 ?_ | refine S58 ?_ | refine S59 ?_ | refine S60 ?_ | refine S61 ?_ | refine S62 ?_ | refine S63 ?_ | refine S64 ?_ | refine S65 ?_ | refine S66 ?_ | refine S67 ?_ | refine S68 ?_ | refine S69 ?_ | refine S70 ?_ | refine S71 ?_ | refine S72 ?_ | refine S73 ?_ | refine S74 ?_ | refine S75 ?_ | refine S76 ?_ | refine S77 ?_ | refine S78 ?_ | refine S79 ?_ | refine S80 ?_ | refine S81 ?_ | refine S82 ?_ | refine S83 ?_ | refine S84 ?_ | refine S85 ?_ | refine S86 ?_ | refine S87 ?_)
    rw [← htk]
    refine CW.loopS (fun qs : List (Int × Int) => Enum b qs) (fun qs => [(1, .fmap (mi b)), (5, .mref 1), (6, pint e), (7, pint c), (12, .itr 3), (19, .itr tk)]) (fun qs hp => 2 ≤ hp.next ∧ hp.sp 1 = some (.map (mi (tplus (gM b ps) (shf e (lkp qs)) c))) ∧ hp.sp 3 = some (.iter (mi a) (pvs (ps ++ [(e, c)]))) ∧ hp.sp tk = some (.iter (mi b) (pvs qs))) (fun qs => 2 * B + 1 - qs.length) [] ⟨.nil b, SLx, ?_, ?_⟩ ?_
    · show 2 ≤ h.next + 1; omega
    · dsimp only
      rw [lkp_nil, shf_none, tplus_none]
      refine ⟨?_, ?_, ?_⟩
      · refine (HP.addS_other _ _ _ (by rw [← htk]; omega)).trans ?_
        exact SBx
      · refine (HP.addS_other _ _ _ (by rw [← htk]; omega)).trans ?_
        exact SBx
      · rw [htk]; exact HP.addS_same _ _ _
    clear htk h1 h3 hN t h
    rintro qs t h hEb ⟨hN, h1, h3, h5⟩
    first | simp only [updS] | simp only [updL, Nat.reduceAdd]
    refine CW.nextI rfl h5 ?_ ?_
    · intro hall
      rw [hEb.full hall, ← gM_snoc] at h1
      repeat (first | refine S0 ?_ | refine S1 ?_ | refine S2 ?_ | refine S3 ?_ | refine S4 ?_ | refine S5 ?_ | refine S6 ?_ | refine S7 ?_ | refine S8 ?_ | refine S9 ?_ | refine S10 ?_ | refine S11 ?_ | refine S12 ?_ | refine S13 ?_ | refine S14 ?_ | refine S15 ?_ | refine S16 ?_ | refine S17 ?_ ?_ | refine S18 ?_ | refine S19 ?_ | refine S20 ?_ | refine S21 ?_ | refine S22 ?_ | refine S23 ?_ | refine S24 ?_ | refine S25 ?_ | refine S26 ?_ | refine S27 ?_ | refine S28 ?_ | refine S29 ?_ | refine S30 ?_ | refine S31 ?_ | refine S32 ?_ | refine S33 ?_ | refine S34 ?_ | refine S35 ?_ | refine S36 ?_ | refine S37 ?_ | refine S38 ?_ | refine S39 ?_ | refine S40 ?_ | refine S41 ?_ | refine S42 ?_ | refine S43 ?_ | refine S44 ?_ | refine S45 ?_ | refine S46 ?_ | refine S47 ?_ | refine S48 ?_ | refine S49 ?_ | refine S50 ?_ | refine S51 ?_ | refine S52 ?_ | refine S53 ?_ | refine S54 ?_ | refine S55 ?_ | refine S56 ?_ | refine S57 ?_ | refine S58 ?_ | refine S59 ?_ | refine S60 ?_ | refine S61 ?_ | refine S62 ?_ | refine S63 ?_ | refine S64 ?_ | refine S65 ?_ | refine S66 ?_ | refine S67 ?_ | refine S68 ?_ | refine S69 ?_ | refine S70 ?_ | refine S71 ?_ | refine S72 ?_ | refine S73 ?_ | refine S74 ?_ | refine S75 ?_ | refine S76 ?_ | refine S77 ?_ | refine S78 ?_ | refine S79 ?_ | refine S80 ?_ | refine S81 ?_ | refine S82 ?_ | refine S83 ?_ | refine S84 ?_ | refine S85 ?_ | refine S86 ?_ | refine S87 ?_)
      exact ⟨ps ++ [(e, c)], hE2, SLx, ⟨hN, h1, h3⟩, by simp; omega⟩
    · intro f d hd hfrb
      have hEb2 := hEb.snoc hd hfrb
      have hlb := hEb2.len hb
      have hbf := hb f (by rw [hd]; rfl)
      have hd2 : -Ab ≤ d ∧ d ≤ Ab := by
        have := vb f
        unfold tv at this
        rwa [hd] at this
      have hm := mul_bd hc2 hd2
      have hge := hg (e + f)
      have hn : shf e (lkp qs) (e + f) = none := by
        unfold shf
        rw [show e + f - e = f by omega]
        exact lkp_fresh hfrb
      have hin0 : in64 (c * d) := by
        have : 0 ≤ (ps.length : Int) * (A * Ab) := Int.mul_nonneg (by omega) hAA
        unfold in64; omega
      have hin : in64 ((tplus (gM b ps) (shf e (lkp qs)) c (e + f)).getD 0 + c * d) := by
        have h0 := tv_plus (gM b ps) (shf e (lkp qs)) c (e + f)
        rw [show tv (shf e (lkp qs)) (e + f) = 0 by unfold tv; rw [hn]; rfl, Int.mul_zero, Int.add_zero] at h0
        rw [show (tplus (gM b ps) (shf e (lkp qs)) c (e + f)).getD 0 = tv (gM b ps) (e + f) from h0]
        unfold in64; omega
      have hs := tplus_put (a := gM b ps) (k := c) (c := d) hn
      rw [shf_snoc hfrb] at hs
      simp only [List.length_append, List.length_cons, List.length_nil] at hlb
      repeat (first | refine S0 ?_ | refine S1 ?_ | refine S2 ?_ | refine S3 ?_ | refine S4 ?_ | refine S5 ?_ | refine S6 ?_ | refine S7 ?_ | refine S8 ?_ | refine S9 ?_ | refine S10 ?_ | refine S11 ?_ | refine S12 ?_ | refine S13 ?_ | refine S14 ?_ | refine S15 ?_ | refine S16 ?_ | refine S17 ?_ ?_ | refine S18 ?_ | refine S19 ?_ | refine S20 ?_ | refine S21 ?_ | refine S22 ?_ | refine S23 ?_ | refine S24 ?_ | refine S25 ?_ | refine S26 ?_ | refine S27 ?_ | refine S28 ?_ | refine S29 ?_ | refine S30 ?_ | refine S31 ?_ | refine S32 ?_ | refine S33 ?_ | refine S34 ?_ | refine S35 ?_ | refine S36 ?_ | refine S37 ?_ | refine S38 ?_ | refine S39 ?_ | refine S40 ?_ | refine S41 ?_ | refine S42 ?_ | refine S43 ?_ | refine S44 ?_ | refine S45 ?_ | refine S46 ?_ | refine S47 ?_ | refine S48 ?_ | refine S49 ?_ | refine S50 ?_ | refine S51 ?_ | refine S52 ?_ | refine S53 ?_ | refine S54 ?_ | refine S55 ?_ | refine S56 ?_ | refine S57 ?_ | refine S58 ?_ | refine S59 ?_ | refine S60 ?_ | refine S61 ?_ | refine S62 ?_ | refine S63 ?_ | refine S64 ?_ | refine S65 ?_ | refine S66 ?_ | refine S67 ?_ | refine S68 ?_ | refine S69 ?_ | refine S70 ?_ | refine S71 ?_ | refine S72 ?_ | refine S73 ?_ | refine S74 ?_ | refine S75 ?_ | refine S76 ?_ | refine S77 ?_ | refine S78 ?_ | refine S79 ?_ | refine S80 ?_ | refine S81 ?_ | refine S82 ?_ | refine S83 ?_ | refine S84 ?_ | refine S85 ?_ | refine S86 ?_ | refine S87 ?_)
      refine ⟨qs ++ [(f, d)], hEb2, SLx, ⟨hN, ?_, ?_, ?_⟩, by simp; omega⟩
      · dsimp only; rw [← hs]; exact SBx
      · exact SBx
      · exact SBx
end Go.Proofs.Ytehilackpaejnaa
