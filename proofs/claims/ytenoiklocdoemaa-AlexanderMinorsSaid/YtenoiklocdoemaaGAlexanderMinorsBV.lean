/- (Terms).Poly with a slice that the caller may write; Normal of the program and of the reference. No condition of its own. -/
import Derived.Test.YtenoiklocdoemaaGAlexanderMinorsBU
set_option linter.unusedVariables false
set_option linter.unusedSimpArgs false
namespace Go.Proofs.Ytenoiklocdoemaa
open Go.RowKit

def polyQ (P : Po) (h0 : HP) (r : PV) (h' : HP) : Prop := (P = (0, []) ∧ r = .agg [pint 0, .lst true 0 0 []] ∨ ∃ tk, (2 * h0.next ≤ tk ∧ tk < 2 * h'.next) ∧ r = .agg [pint P.1, .ref tk 0 1 P.2.length] ∧ h'.blk tk = some (ints P.2)) ∧ Fr [] h0 h'
set_option maxHeartbeats 8000000 in
set_option maxRecDepth 100000 in
theorem poly_e {h0 : HP} (f : Tm) (B : Nat) (hB : B ≤ 1000000) (hf : ∀ e, (f e).isSome = true → -(B : Int) ≤ e ∧ e ≤ B) : SChE Try.prog 15 [.fmap (mi f)] h0 (polyQ (cano (tv f)) h0) := by
  refine SChE.go {} tok mixed Try.func15 rfl rfl Try.ntmps15 rfl rfl (by kernel_rfl) (fun hw => ?_)
  first | simp only [updS] | simp only [updL, Nat.reduceAdd]
  repeat (first | refine S0 ?_ | refine S1 ?_ | refine S2 ?_ | refine S3 ?_ | refine S4 ?_ | refine S5 ?_ | refine S6 ?_ | refine S7 ?_ | refine S8 ?_ | refine S9 ?_ | refine S10 ?_ | refine S11 ?_ | refine S13 ?_ | refine S15 ?_ | refine S16 ?_ | refine S19 ?_ | refine S20 ?_ | refine S21 ?_ | refine S22 ?_ | refine S23 ?_ | refine S24 ?_ | refine S25 ?_ | refine S26 ?_ | refine S27 ?_ | refine S28 ?_ | refine S30 ?_ | refine S31 ?_ | refine S33 ?_ | refine S34 ?_ | refine S35 ?_ | refine S36 ?_ | refine S37 ?_ | refine S38 ?_ | refine S40 ?_ | refine S41 ?_ | refine S43 ?_ | refine S44 ?_ | refine S45 ?_ | refine S46 ?_ | refine S48 ?_ | refine S49 ?_ | refine S63 ?_ | refine S64 ?_ | refine S65 ?_ | refine S66 ?_ | refine S68 ?_ | refine S69 ?_ | refine S83 ?_ | refine S85 ?_ | refine S87 ?_)
  refine CW.loopS (fun i : List (Int × Int) × Int × Int × Bool => Enum f i.1 ∧ PI f i.1 i.2.1 i.2.2.1 i.2.2.2) (fun i => [(0, .fmap (mi f)), (2, .ptr (2 * h0.next + 1) 0), (3, pint i.2.1), (4, pint i.2.2.1), (5, .sc (.bool i.2.2.2)), (11, .itr (2 * h0.next + 3))]) (fun i hp => hp.next = h0.next + 2 ∧ hp.blk (2 * h0.next + 1) = some [pint 0, .lst true 0 0 []] ∧ hp.sp (2 * h0.next + 3) = some (.iter (mi f) (pvs i.1)) ∧ Fr [] h0 hp) (fun i => 2 * B + 1 - i.1.length) ([], 0, 0, false) ⟨⟨.nil f, .inl ⟨rfl, rfl, rfl, fun _ h => (by cases h)⟩⟩, SLx, ?_, ?_⟩ ?_
  · simp only [HP.next_add, HP.next_addS]
  · exact ⟨HBx, SBx, ((Fr.refl _ _).add _ _).addS _ _⟩
  rintro ⟨ps, low, high, any⟩ t h ⟨hE, hI⟩ ⟨hN, b1, h3, hFr⟩
  simp only at hE hI h3
  first | simp only [updS] | simp only [updL, Nat.reduceAdd]
  refine CW.nextI rfl h3 ?_ ?_
  · intro hall
    have hval : ∀ e, tv f e ≠ 0 → (e, tv f e) ∈ ps := fun e he => by
      unfold tv at he ⊢
      cases hc : f e with
      | none => rw [hc] at he; exact absurd rfl he
      | some c => exact hall e c hc
    rcases hI with ⟨rfl, rfl, rfl, hz⟩ | ⟨rfl, ⟨hlo, hlohi⟩, hhi, hin⟩
    · have h0 : ∀ e, tv f e = 0 := fun e => Classical.byContradiction fun he => he (hz _ (hval e he))
      repeat (first | refine S0 ?_ | refine S1 ?_ | refine S2 ?_ | refine S3 ?_ | refine S4 ?_ | refine S5 ?_ | refine S6 ?_ | refine S7 ?_ | refine S8 ?_ | refine S9 ?_ | refine S10 ?_ | refine S11 ?_ | refine S13 ?_ | refine S15 ?_ | refine S16 ?_ | refine S19 ?_ | refine S20 ?_ | refine S21 ?_ | refine S22 ?_ | refine S23 ?_ | refine S24 ?_ | refine S25 ?_ | refine S26 ?_ | refine S27 ?_ | refine S28 ?_ | refine S30 ?_ | refine S31 ?_ | refine S33 ?_ | refine S34 ?_ | refine S35 ?_ | refine S36 ?_ | refine S37 ?_ | refine S38 ?_ | refine S40 ?_ | refine S41 ?_ | refine S43 ?_ | refine S44 ?_ | refine S45 ?_ | refine S46 ?_ | refine S48 ?_ | refine S49 ?_ | refine S63 ?_ | refine S64 ?_ | refine S65 ?_ | refine S66 ?_ | refine S68 ?_ | refine S69 ?_ | refine S83 ?_ | refine S85 ?_ | refine S87 ?_)
      rw [cano_zero h0]
      exact ⟨.inr rfl, _, RC.cell1 rfl HBx rfl rfl, .inl ⟨rfl, rfl⟩, (by repeat (first | exact Fr.refl _ _ | assumption | refine Fr.add ?_ _ _ | refine Fr.addS ?_ _ _ | refine Fr.set ?_ _ (by first | (left; simp; done) | (right; omega) | (right; (simp only [HP.tokF, HP.tokT, HP.next_add, HP.next_set, HP.next_kill, HP.next_addS, HP.next_setS, HP.next_killS]; omega))) | refine Fr.kill ?_ (by first | (left; simp; done) | (right; omega)) | refine Fr.setS ?_ _ (by first | (left; simp; done) | (right; omega)) | refine Fr.killS ?_ (by first | (left; simp; done) | (right; omega))))⟩
    · have hin2 : ∀ e, tv f e ≠ 0 → low ≤ e ∧ e ≤ high := fun e he => hin _ (hval e he) he
      have hbd : ∀ e, tv f e ≠ 0 → -(B : Int) ≤ e ∧ e ≤ B := fun e he => hf e (by
        unfold tv at he
        cases hc : f e with
        | none => rw [hc] at he; exact absurd rfl he
        | some c => rfl)
      have hb1 := hbd low hlo
      have hb2 := hbd high hhi
      have hlh := hin2 low hlo
      have et : h.tok true = 2 * h0.next + 5 := by rw [HP.tokT, hN]; omega
      repeat (first | refine S0 ?_ | refine S1 ?_ | refine S2 ?_ | refine S3 ?_ | refine S4 ?_ | refine S5 ?_ | refine S6 ?_ | refine S7 ?_ | refine S8 ?_ | refine S9 ?_ | refine S10 ?_ | refine S11 ?_ | refine S13 ?_ | refine S15 ?_ | refine S16 ?_ | refine S19 ?_ | refine S20 ?_ | refine S21 ?_ | refine S22 ?_ | refine S23 ?_ | refine S24 ?_ | refine S25 ?_ | refine S26 ?_ | refine S27 ?_ | refine S28 ?_ | refine S30 ?_ | refine S31 ?_ | refine S33 ?_ | refine S34 ?_ | refine S35 ?_ | refine S36 ?_ | refine S37 ?_ | refine S38 ?_ | refine S40 ?_ | refine S41 ?_ | refine S43 ?_ | refine S44 ?_ | refine S45 ?_ | refine S46 ?_ | refine S48 ?_ | refine S49 ?_ | refine S63 ?_ | refine S64 ?_ | refine S65 ?_ | refine S66 ?_ | refine S68 ?_ | refine S69 ?_ | refine S83 ?_ | refine S85 ?_ | refine S87 ?_)
      refine CW.loopS (fun e : Int => low ≤ e ∧ e ≤ high + 1) (fun e => [(0, .fmap (mi f)), (2, .ptr (2 * h0.next + 1) 0), (4, pint high), (8, .ptr (2 * h0.next + 5) 0), (9, pint e)])
        (fun e hp => hp.blk (2 * h0.next + 1) = some [pint 0, .lst true 0 0 []] ∧ (e = low → hp.blk (2 * h0.next + 5) = some [pint low, .lst true 0 0 []]) ∧ (e ≠ low → ∃ tk, tk % 2 = 0 ∧ hp.blk (2 * h0.next + 5) = some [pint low, .ref tk 0 1 (e - low).toNat] ∧ hp.blk tk = some (ints (tab (e - low).toNat (fun j => tv f (low + j)))) ∧ 2 * h0.next + 6 ≤ tk ∧ tk < 2 * hp.next) ∧ Fr [] h0 hp ∧ h0.next + 3 ≤ hp.next)
        (fun e => (high + 1 - e).toNat) low ⟨by omega, ?_, ?_⟩ ?_
      · rw [et]; exact SLx
      · dsimp only
        refine ⟨HBx, fun _ => ?_, fun hne => absurd rfl hne, (by repeat (first | exact Fr.refl _ _ | assumption | refine Fr.add ?_ _ _ | refine Fr.addS ?_ _ _ | refine Fr.set ?_ _ (by first | (left; simp; done) | (right; omega) | (right; (simp only [HP.tokF, HP.tokT, HP.next_add, HP.next_set, HP.next_kill, HP.next_addS, HP.next_setS, HP.next_killS]; omega))) | refine Fr.kill ?_ (by first | (left; simp; done) | (right; omega)) | refine Fr.setS ?_ _ (by first | (left; simp; done) | (right; omega)) | refine Fr.killS ?_ (by first | (left; simp; done) | (right; omega)))), (by first | omega | (simp only [HP.tokF, HP.tokT, HP.next_add, HP.next_set, HP.next_kill, HP.next_H0, HP.next_addS, HP.next_setS, HP.next_killS, HP.next_put, HP.next_bump, HP.next_putS]; omega))⟩
        rw [← et]; exact HBx
      clear b1 h3 hN et hFr t h
      rintro e t h ⟨he1, he2⟩ ⟨b1, h5, h6, hFr, hN⟩
      first | simp only [updS] | simp only [updL, Nat.reduceAdd]
      by_cases hle : e ≤ high
      · by_cases h0 : e = low
        · have h5 := h5 h0
          subst h0
          repeat (first | refine S0 ?_ | refine S1 ?_ | refine S2 ?_ | refine S3 ?_ | refine S4 ?_ | refine S5 ?_ | refine S6 ?_ | refine S7 ?_ | refine S8 ?_ | refine S9 ?_ | refine S10 ?_ | refine S11 ?_ | refine S13 ?_ | refine S15 ?_ | refine S16 ?_ | refine S19 ?_ | refine S20 ?_ | refine S21 ?_ | refine S22 ?_ | refine S23 ?_ | refine S24 ?_ | refine S25 ?_ | refine S26 ?_ | refine S27 ?_ | refine S28 ?_ | refine S30 ?_ | refine S31 ?_ | refine S33 ?_ | refine S34 ?_ | refine S35 ?_ | refine S36 ?_ | refine S37 ?_ | refine S38 ?_ | refine S40 ?_ | refine S41 ?_ | refine S43 ?_ | refine S44 ?_ | refine S45 ?_ | refine S46 ?_ | refine S48 ?_ | refine S49 ?_ | refine S63 ?_ | refine S64 ?_ | refine S65 ?_ | refine S66 ?_ | refine S68 ?_ | refine S69 ?_ | refine S83 ?_ | refine S85 ?_ | refine S87 ?_)
          refine ⟨e + 1, by omega, SLx, ⟨HBx, fun hh => by omega, fun _ => ⟨h.tok false, HP.tok_even _, ?_, ?_, by have := (h.tok_ge false).1; omega, (by first | omega | (simp only [HP.tokF, HP.tokT, HP.next_add, HP.next_set, HP.next_kill, HP.next_H0, HP.next_addS, HP.next_setS, HP.next_killS, HP.next_put, HP.next_bump, HP.next_putS]; omega))⟩, (by repeat (first | exact Fr.refl _ _ | assumption | refine Fr.add ?_ _ _ | refine Fr.addS ?_ _ _ | refine Fr.set ?_ _ (by first | (left; simp; done) | (right; omega) | (right; (simp only [HP.tokF, HP.tokT, HP.next_add, HP.next_set, HP.next_kill, HP.next_addS, HP.next_setS, HP.next_killS]; omega))) | refine Fr.kill ?_ (by first | (left; simp; done) | (right; omega)) | refine Fr.setS ?_ _ (by first | (left; simp; done) | (right; omega)) | refine Fr.killS ?_ (by first | (left; simp; done) | (right; omega)))), (by first | omega | (simp only [HP.tokF, HP.tokT, HP.next_add, HP.next_set, HP.next_kill, HP.next_H0, HP.next_addS, HP.next_setS, HP.next_killS, HP.next_put, HP.next_bump, HP.next_putS]; omega))⟩, by omega⟩
          · rw [show (e + 1 - e).toNat = 1 by omega]; exact HBx
          · rw [show (e + 1 - e).toNat = 1 by omega, show tab 1 (fun j => tv f (e + j)) = [(f e).getD 0] by simp [tab, tv]]; exact HBx
        · obtain ⟨tk, hev, h5, h7, h8, h9⟩ := h6 h0
          obtain ⟨m, hm⟩ : ∃ m : Nat, (e - low).toNat = m := ⟨_, rfl⟩
          rw [hm] at h5 h7
          have hm2 : m ≤ 3000000 := by omega
          obtain ⟨zs, hzs⟩ : ∃ zs, zs = tab m (fun j => tv f (low + j)) := ⟨_, rfl⟩
          rw [← hzs] at h7
          have hzl : zs.length = m := by rw [hzs, tab_length]
          have hs : zs ++ [(f e).getD 0] = tab (m + 1) (fun j => tv f (low + j)) := by
            rw [hzs]
            unfold tab
            rw [List.range_succ, List.map_append, List.map_singleton, show low + (m : Int) = e by omega]
            rfl
          repeat (first | refine S0 ?_ | refine S1 ?_ | refine S2 ?_ | refine S3 ?_ | refine S4 ?_ | refine S5 ?_ | refine S6 ?_ | refine S7 ?_ | refine S8 ?_ | refine S9 ?_ | refine S10 ?_ | refine S11 ?_ | refine S13 ?_ | refine S15 ?_ | refine S16 ?_ | refine S19 ?_ | refine S20 ?_ | refine S21 ?_ | refine S22 ?_ | refine S23 ?_ | refine S24 ?_ | refine S25 ?_ | refine S26 ?_ | refine S27 ?_ | refine S28 ?_ | refine S30 ?_ | refine S31 ?_ | refine S33 ?_ | refine S34 ?_ | refine S35 ?_ | refine S36 ?_ | refine S37 ?_ | refine S38 ?_ | refine S40 ?_ | refine S41 ?_ | refine S43 ?_ | refine S44 ?_ | refine S45 ?_ | refine S46 ?_ | refine S48 ?_ | refine S49 ?_ | refine S63 ?_ | refine S64 ?_ | refine S65 ?_ | refine S66 ?_ | refine S68 ?_ | refine S69 ?_ | refine S83 ?_ | refine S85 ?_ | refine S87 ?_)
          refine ⟨e + 1, by omega, SLx, ⟨HBx, fun hh => by omega, fun _ => ⟨h.tok false, HP.tok_even _, ?_, ?_, by have := (h.tok_ge false).1; omega, (by first | omega | (simp only [HP.tokF, HP.tokT, HP.next_add, HP.next_set, HP.next_kill, HP.next_H0, HP.next_addS, HP.next_setS, HP.next_killS, HP.next_put, HP.next_bump, HP.next_putS]; omega))⟩, (by repeat (first | exact Fr.refl _ _ | assumption | refine Fr.add ?_ _ _ | refine Fr.addS ?_ _ _ | refine Fr.set ?_ _ (by first | (left; simp; done) | (right; omega) | (right; (simp only [HP.tokF, HP.tokT, HP.next_add, HP.next_set, HP.next_kill, HP.next_addS, HP.next_setS, HP.next_killS]; omega))) | refine Fr.kill ?_ (by first | (left; simp; done) | (right; omega)) | refine Fr.setS ?_ _ (by first | (left; simp; done) | (right; omega)) | refine Fr.killS ?_ (by first | (left; simp; done) | (right; omega)))), (by first | omega | (simp only [HP.tokF, HP.tokT, HP.next_add, HP.next_set, HP.next_kill, HP.next_H0, HP.next_addS, HP.next_setS, HP.next_killS, HP.next_put, HP.next_bump, HP.next_putS]; omega))⟩, by omega⟩
          · rw [show (e + 1 - low).toNat = m + 1 by omega]; exact HBx
          · rw [show (e + 1 - low).toNat = m + 1 by omega, ← hs]; exact HBx
      · obtain ⟨tk, hev, h5, h7, h8, h9⟩ := h6 (by omega)
        repeat (first | refine S0 ?_ | refine S1 ?_ | refine S2 ?_ | refine S3 ?_ | refine S4 ?_ | refine S5 ?_ | refine S6 ?_ | refine S7 ?_ | refine S8 ?_ | refine S9 ?_ | refine S10 ?_ | refine S11 ?_ | refine S13 ?_ | refine S15 ?_ | refine S16 ?_ | refine S19 ?_ | refine S20 ?_ | refine S21 ?_ | refine S22 ?_ | refine S23 ?_ | refine S24 ?_ | refine S25 ?_ | refine S26 ?_ | refine S27 ?_ | refine S28 ?_ | refine S30 ?_ | refine S31 ?_ | refine S33 ?_ | refine S34 ?_ | refine S35 ?_ | refine S36 ?_ | refine S37 ?_ | refine S38 ?_ | refine S40 ?_ | refine S41 ?_ | refine S43 ?_ | refine S44 ?_ | refine S45 ?_ | refine S46 ?_ | refine S48 ?_ | refine S49 ?_ | refine S63 ?_ | refine S64 ?_ | refine S65 ?_ | refine S66 ?_ | refine S68 ?_ | refine S69 ?_ | refine S83 ?_ | refine S85 ?_ | refine S87 ?_)
        rw [canon_range (n := (e - low).toNat) hlo hhi hin2 (by omega)]
        refine ⟨.inr rfl, _, RC.cell1 rfl HBx rfl rfl, .inr ⟨tk, ⟨by omega, (by first | omega | (simp only [HP.tokF, HP.tokT, HP.next_add, HP.next_set, HP.next_kill, HP.next_H0, HP.next_addS, HP.next_setS, HP.next_killS, HP.next_put, HP.next_bump, HP.next_putS]; omega))⟩, by simp only [packP, tab_length]; rfl, HBx⟩, (by repeat (first | exact Fr.refl _ _ | assumption | refine Fr.add ?_ _ _ | refine Fr.addS ?_ _ _ | refine Fr.set ?_ _ (by first | (left; simp; done) | (right; omega) | (right; (simp only [HP.tokF, HP.tokT, HP.next_add, HP.next_set, HP.next_kill, HP.next_addS, HP.next_setS, HP.next_killS]; omega))) | refine Fr.kill ?_ (by first | (left; simp; done) | (right; omega)) | refine Fr.setS ?_ _ (by first | (left; simp; done) | (right; omega)) | refine Fr.killS ?_ (by first | (left; simp; done) | (right; omega))))⟩
  · intro e c hc hfr
    have hE2 := hE.snoc hc hfr
    have hl := hE2.len hf
    have htv : tv f e = c := by unfold tv; rw [hc]; rfl
    simp only [List.length_append, List.length_cons, List.length_nil] at hl
    have hlen : ∀ (x : Int × Int), 2 * B + 1 - (ps ++ [x]).length < 2 * B + 1 - ps.length := fun x => by simp; omega
    by_cases c0 : c = 0
    · repeat (first | refine S0 ?_ | refine S1 ?_ | refine S2 ?_ | refine S3 ?_ | refine S4 ?_ | refine S5 ?_ | refine S6 ?_ | refine S7 ?_ | refine S8 ?_ | refine S9 ?_ | refine S10 ?_ | refine S11 ?_ | refine S13 ?_ | refine S15 ?_ | refine S16 ?_ | refine S19 ?_ | refine S20 ?_ | refine S21 ?_ | refine S22 ?_ | refine S23 ?_ | refine S24 ?_ | refine S25 ?_ | refine S26 ?_ | refine S27 ?_ | refine S28 ?_ | refine S30 ?_ | refine S31 ?_ | refine S33 ?_ | refine S34 ?_ | refine S35 ?_ | refine S36 ?_ | refine S37 ?_ | refine S38 ?_ | refine S40 ?_ | refine S41 ?_ | refine S43 ?_ | refine S44 ?_ | refine S45 ?_ | refine S46 ?_ | refine S48 ?_ | refine S49 ?_ | refine S63 ?_ | refine S64 ?_ | refine S65 ?_ | refine S66 ?_ | refine S68 ?_ | refine S69 ?_ | refine S83 ?_ | refine S85 ?_ | refine S87 ?_)
      refine ⟨(ps ++ [(e, c)], low, high, any), ⟨hE2, ?_⟩, SLx, ⟨hN, HBx, SBx, hFr.setS _ (.inr (by omega))⟩, hlen _⟩
      rcases hI with ⟨g1, g2, g3, g4⟩ | ⟨g1, g2, g3, g4⟩
      · exact .inl ⟨g1, g2, g3, snoc_all g4 c0⟩
      · exact .inr ⟨g1, g2, g3, snoc_all g4 (fun hh => absurd c0 hh)⟩
    · rcases hI with ⟨rfl, rfl, rfl, g4⟩ | ⟨rfl, ⟨g2, g5⟩, g3, g4⟩
      · repeat (first | refine S0 ?_ | refine S1 ?_ | refine S2 ?_ | refine S3 ?_ | refine S4 ?_ | refine S5 ?_ | refine S6 ?_ | refine S7 ?_ | refine S8 ?_ | refine S9 ?_ | refine S10 ?_ | refine S11 ?_ | refine S13 ?_ | refine S15 ?_ | refine S16 ?_ | refine S19 ?_ | refine S20 ?_ | refine S21 ?_ | refine S22 ?_ | refine S23 ?_ | refine S24 ?_ | refine S25 ?_ | refine S26 ?_ | refine S27 ?_ | refine S28 ?_ | refine S30 ?_ | refine S31 ?_ | refine S33 ?_ | refine S34 ?_ | refine S35 ?_ | refine S36 ?_ | refine S37 ?_ | refine S38 ?_ | refine S40 ?_ | refine S41 ?_ | refine S43 ?_ | refine S44 ?_ | refine S45 ?_ | refine S46 ?_ | refine S48 ?_ | refine S49 ?_ | refine S63 ?_ | refine S64 ?_ | refine S65 ?_ | refine S66 ?_ | refine S68 ?_ | refine S69 ?_ | refine S83 ?_ | refine S85 ?_ | refine S87 ?_)
        refine ⟨(ps ++ [(e, c)], e, e, true), ⟨hE2, .inr ⟨rfl, ⟨by rw [htv]; exact c0, Int.le_refl _⟩, by rw [htv]; exact c0, snoc_all (fun y hy hh => absurd (g4 y hy) hh) (fun _ => ⟨Int.le_refl _, Int.le_refl _⟩)⟩⟩, SLx, ⟨hN, HBx, SBx, hFr.setS _ (.inr (by omega))⟩, hlen _⟩
      · by_cases d1 : e < low
        · have d2 : ¬ high < e := by omega
          repeat (first | refine S0 ?_ | refine S1 ?_ | refine S2 ?_ | refine S3 ?_ | refine S4 ?_ | refine S5 ?_ | refine S6 ?_ | refine S7 ?_ | refine S8 ?_ | refine S9 ?_ | refine S10 ?_ | refine S11 ?_ | refine S13 ?_ | refine S15 ?_ | refine S16 ?_ | refine S19 ?_ | refine S20 ?_ | refine S21 ?_ | refine S22 ?_ | refine S23 ?_ | refine S24 ?_ | refine S25 ?_ | refine S26 ?_ | refine S27 ?_ | refine S28 ?_ | refine S30 ?_ | refine S31 ?_ | refine S33 ?_ | refine S34 ?_ | refine S35 ?_ | refine S36 ?_ | refine S37 ?_ | refine S38 ?_ | refine S40 ?_ | refine S41 ?_ | refine S43 ?_ | refine S44 ?_ | refine S45 ?_ | refine S46 ?_ | refine S48 ?_ | refine S49 ?_ | refine S63 ?_ | refine S64 ?_ | refine S65 ?_ | refine S66 ?_ | refine S68 ?_ | refine S69 ?_ | refine S83 ?_ | refine S85 ?_ | refine S87 ?_)
          refine ⟨(ps ++ [(e, c)], e, high, true), ⟨hE2, .inr ⟨rfl, ⟨by rw [htv]; exact c0, by dsimp only; omega⟩, g3, snoc_all (fun y hy hh => by have := g4 y hy hh; dsimp only; omega) (fun _ => by dsimp only; omega)⟩⟩, SLx, ⟨hN, HBx, SBx, hFr.setS _ (.inr (by omega))⟩, hlen _⟩
        · by_cases d2 : high < e
          · repeat (first | refine S0 ?_ | refine S1 ?_ | refine S2 ?_ | refine S3 ?_ | refine S4 ?_ | refine S5 ?_ | refine S6 ?_ | refine S7 ?_ | refine S8 ?_ | refine S9 ?_ | refine S10 ?_ | refine S11 ?_ | refine S13 ?_ | refine S15 ?_ | refine S16 ?_ | refine S19 ?_ | refine S20 ?_ | refine S21 ?_ | refine S22 ?_ | refine S23 ?_ | refine S24 ?_ | refine S25 ?_ | refine S26 ?_ | refine S27 ?_ | refine S28 ?_ | refine S30 ?_ | refine S31 ?_ | refine S33 ?_ | refine S34 ?_ | refine S35 ?_ | refine S36 ?_ | refine S37 ?_ | refine S38 ?_ | refine S40 ?_ | refine S41 ?_ | refine S43 ?_ | refine S44 ?_ | refine S45 ?_ | refine S46 ?_ | refine S48 ?_ | refine S49 ?_ | refine S63 ?_ | refine S64 ?_ | refine S65 ?_ | refine S66 ?_ | refine S68 ?_ | refine S69 ?_ | refine S83 ?_ | refine S85 ?_ | refine S87 ?_)
            refine ⟨(ps ++ [(e, c)], low, e, true), ⟨hE2, .inr ⟨rfl, ⟨g2, by dsimp only; omega⟩, by rw [htv]; exact c0, snoc_all (fun y hy hh => by have := g4 y hy hh; dsimp only; omega) (fun _ => by dsimp only; omega)⟩⟩, SLx, ⟨hN, HBx, SBx, hFr.setS _ (.inr (by omega))⟩, hlen _⟩
          · repeat (first | refine S0 ?_ | refine S1 ?_ | refine S2 ?_ | refine S3 ?_ | refine S4 ?_ | refine S5 ?_ | refine S6 ?_ | refine S7 ?_ | refine S8 ?_ | refine S9 ?_ | refine S10 ?_ | refine S11 ?_ | refine S13 ?_ | refine S15 ?_ | refine S16 ?_ | refine S19 ?_ | refine S20 ?_ | refine S21 ?_ | refine S22 ?_ | refine S23 ?_ | refine S24 ?_ | refine S25 ?_ | refine S26 ?_ | refine S27 ?_ | refine S28 ?_ | refine S30 ?_ | refine S31 ?_ | refine S33 ?_ | refine S34 ?_ | refine S35 ?_ | refine S36 ?_ | refine S37 ?_ | refine S38 ?_ | refine S40 ?_ | refine S41 ?_ | refine S43 ?_ | refine S44 ?_ | refine S45 ?_ | refine S46 ?_ | refine S48 ?_ | refine S49 ?_ | refine S63 ?_ | refine S64 ?_ | refine S65 ?_ | refine S66 ?_ | refine S68 ?_ | refine S69 ?_ | refine S83 ?_ | refine S85 ?_ | refine S87 ?_)
            refine ⟨(ps ++ [(e, c)], low, high, true), ⟨hE2, .inr ⟨rfl, ⟨g2, g5⟩, g3, snoc_all g4 (fun _ => by dsimp only; omega)⟩⟩, SLx, ⟨hN, HBx, SBx, hFr.setS _ (.inr (by omega))⟩, hlen _⟩
/-- the sign of the last coefficient -/
def sgl (p : Po) : Int := if 0 < p.2.length ∧ p.2.getD (p.2.length - 1) 0 < 0 then -1 else 1
def nrmP (p : Po) : Po := (0, p.2.map fun x => sgl p * x)
end Go.Proofs.Ytenoiklocdoemaa
