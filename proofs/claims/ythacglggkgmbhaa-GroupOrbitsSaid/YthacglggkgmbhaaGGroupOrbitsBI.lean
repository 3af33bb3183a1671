/- permgroup: a level of the chain is completed. No condition of its own. -/
import Derived.Test.YthacglggkgmbhaaGGroupOrbitsBH
set_option linter.unusedVariables false
set_option linter.unusedSimpArgs false
namespace Go.Proofs.Ythacglggkgmbhaa
open Go.RowKit

theorem gL_get {n t : Nat} {l : List Fn} (h : t < l.length) : (gL n l)[t]? = some (pli (tabN n (l.getD t id))) := by simp [gL, List.getD, h]
/-- what an addition at a level does -/
def AddC (n : Nat) (vt mt : Nat → Nat) (i0 : Nat) : Prop :=
  ∀ (h : HP) (et : Nat → Nat) (R : Nat → List (Nat × Fn)) (S : Nat → List Fn) (p : Fn), CH n n vt mt et R S h → Good n R S i0 → Pe n p → (∀ k, k < i0 → p k = k) →
    SChE Try.prog 49 [chn n vt, pli (tabN n p), pint i0] h (fun _ h' => ∃ et' R' S', CH n n vt mt et' R' S' h' ∧ AddP n R S i0 p R' S' ∧ ∀ a, a < 2 * i0 → et' a = et a)
set_option maxHeartbeats 16000000 in
set_option maxRecDepth 100000 in
theorem complete_e {n : Nat} (hn : n ≤ 9) {vt mt et0 : Nat → Nat} {Ra : Nat → List (Nat × Fn)} {Sa : Nat → List Fn} {i : Nat} {h : HP} (hadd : AddC n vt mt (i + 1)) (H : CH n n vt mt et0 Ra Sa h) (hi : i < n) (G : Good n Ra Sa (i + 1)) (L : Lv n Ra Sa i) :
    SChE Try.prog 54 [chn n vt, pint i] h (fun _ h' => ∃ et' R' S', CH n n vt mt et' R' S' h' ∧ CmpP n Ra Sa i R' S' ∧ ∀ a, a < 2 * i → et' a = et0 a) := by
  refine SChE.go { rb := [83] } tok mixed Try.func54 rfl rfl Try.ntmps54 rfl rfl (by kernel_rfl) (fun hw => ?_)
  first | simp only [updS] | simp only [updL, Nat.reduceAdd]
  repeat (first | refine S0 ?_ | refine S1 ?_ | refine S2 ?_ | refine S3 ?_ | refine S4 ?_ | refine S5 ?_ | refine S6 ?_ | refine S8 ?_ | refine S10 ?_ | refine S11 ?_ | refine S13 ?_ | refine S15 ?_ | refine S16 ?_ | refine S19 ?_ | refine S20 ?_ | refine S21 ?_ | refine S22 ?_ | refine S24 ?_ | refine S25 ?_ | refine S26 ?_ | refine S27 ?_ | refine S34 ?_ | refine S45 ?_ | refine S46 ?_ | refine S49 ?_ | refine S63 ?_ | refine S65 ?_ | refine S67 ?_ | refine S89 ?_ | refine S92 ?_)
  refine AW.ldl EVx rfl (p := .ptr (vt i) 0) (chn_at hi) ?_
  repeat (first | refine S0 ?_ | refine S1 ?_ | refine S2 ?_ | refine S3 ?_ | refine S4 ?_ | refine S5 ?_ | refine S6 ?_ | refine S8 ?_ | refine S10 ?_ | refine S11 ?_ | refine S13 ?_ | refine S15 ?_ | refine S16 ?_ | refine S19 ?_ | refine S20 ?_ | refine S21 ?_ | refine S22 ?_ | refine S24 ?_ | refine S25 ?_ | refine S26 ?_ | refine S27 ?_ | refine S34 ?_ | refine S45 ?_ | refine S46 ?_ | refine S49 ?_ | refine S63 ?_ | refine S65 ?_ | refine S67 ?_ | refine S89 ?_ | refine S92 ?_)
  refine CW.loopS (fun s : Nat × (Nat → Nat) × (Nat → List (Nat × Fn)) × (Nat → List Fn) => Ci n Ra Sa i s.2.2.1 s.2.2.2 s.1 0 ∧ s.1 ≤ (s.2.2.1 i).length ∧ ∀ a, a < 2 * i → s.2.1 a = et0 a) (fun s => [(0, chn n vt), (1, pint i), (4, .ptr (vt i) 0), (5, pint s.1)])
    (fun s hp => CH n n vt mt s.2.1 s.2.2.1 s.2.2.2 hp) (fun s => n + 1 - s.1) (0, et0, Ra, Sa) ⟨⟨Ci.start G L, Nat.zero_le _, fun _ _ => rfl⟩, SLx, H⟩ ?_
  rintro ⟨k, et, R, S⟩ t hp ⟨C, hk, he⟩ H
  simp only at C hk he H
  first | simp only [updS] | simp only [updL, Nat.reduceAdd]
  have hlen := keys_len C.lv hi
  have hv := H.v i hi
  by_cases hk2 : k < (R i).length
  · repeat (first | refine S0 ?_ | refine S1 ?_ | refine S2 ?_ | refine S3 ?_ | refine S4 ?_ | refine S5 ?_ | refine S6 ?_ | refine S8 ?_ | refine S10 ?_ | refine S11 ?_ | refine S13 ?_ | refine S15 ?_ | refine S16 ?_ | refine S19 ?_ | refine S20 ?_ | refine S21 ?_ | refine S22 ?_ | refine S24 ?_ | refine S25 ?_ | refine S26 ?_ | refine S27 ?_ | refine S34 ?_ | refine S45 ?_ | refine S46 ?_ | refine S49 ?_ | refine S63 ?_ | refine S65 ?_ | refine S67 ?_ | refine S89 ?_ | refine S92 ?_)
    obtain ⟨m, hm⟩ : ∃ m, m = (Sa i).length := ⟨_, rfl⟩
    have hm1 : (S i).length = m := by rw [hm, C.lowS i (Nat.le_refl _)]
    rw [hm1]
    obtain ⟨g0, hg0⟩ : ∃ g0, g0 = et (2 * i) := ⟨_, rfl⟩
    rw [← hg0]
    refine CW.loopS (fun s : Nat × (Nat → Nat) × (Nat → List (Nat × Fn)) × (Nat → List Fn) => Ci n Ra Sa i s.2.2.1 s.2.2.2 k s.1 ∧ k < (s.2.2.1 i).length ∧ s.1 ≤ m ∧ (∀ a, a < 2 * i → s.2.1 a = et0 a) ∧ s.2.1 (2 * i) = g0) (fun s => [(0, chn n vt), (1, pint i), (4, .ptr (vt i) 0), (5, pint k), (28, .ref g0 0 1 m), (29, pint m), (30, pint s.1)])
      (fun s hp => CH n n vt mt s.2.1 s.2.2.1 s.2.2.2 hp) (fun s => m - s.1) (0, et, R, S) ⟨⟨C, hk2, Nat.zero_le _, he, hg0.symm⟩, SLx, H⟩ ?_
    clear H C hv hk hk2 hlen hm1 he hg0 et R S hp
    rintro ⟨x, et, R, S⟩ t hp ⟨C, hk, hx, he, hg0⟩ H
    simp only at C hk hx he hg0 H
    first | simp only [updS] | simp only [updL, Nat.reduceAdd]
    have hlen := keys_len C.lv hi
    have hv := H.v i hi
    have hm1 : (S i).length = m := by rw [hm, C.lowS i (Nat.le_refl _)]
    have hg := H.g i hi
    have ho := H.o i hi
    have hmm := H.mp i hi
    have hod := H.od i hi
    have hev := H.ev (2 * i + 1) (by omega)
    have hvt := H.ltv i hi
    have hot := H.lte (2 * i + 1) (by omega)
    rw [hg0] at hg hv
    have hmb : m ≤ 387420489 := by rw [← hm1]; exact fn_pigeon hn (H.nd i hi) (fun g hg => (C.lv.s g hg).1)
    by_cases hx2 : x < m
    · have hgl := gL_len n (S i)
      have hol := oL_len (R i)
      repeat (first | refine S0 ?_ | refine S1 ?_ | refine S2 ?_ | refine S3 ?_ | refine S4 ?_ | refine S5 ?_ | refine S6 ?_ | refine S8 ?_ | refine S10 ?_ | refine S11 ?_ | refine S13 ?_ | refine S15 ?_ | refine S16 ?_ | refine S19 ?_ | refine S20 ?_ | refine S21 ?_ | refine S22 ?_ | refine S24 ?_ | refine S25 ?_ | refine S26 ?_ | refine S27 ?_ | refine S34 ?_ | refine S45 ?_ | refine S46 ?_ | refine S49 ?_ | refine S63 ?_ | refine S65 ?_ | refine S67 ?_ | refine S89 ?_ | refine S92 ?_)
      rw [show 0 + (x : Int).toNat * 1 = x by simp]
      refine AW.ldm EVx (by first | exact Or.inl rfl | exact Or.inr ⟨rfl, HP.tok_even _⟩ | exact Or.inr (Or.inl ⟨rfl, HP.tok_even _⟩) | exact Or.inr (Or.inr ⟨rfl, HP.tok_odd _⟩) | exact Or.inr (Or.inl rfl) | exact Or.inr (Or.inr (Or.inl rfl)) | exact Or.inr (Or.inr (Or.inr (Or.inl ⟨rfl, HP.tok_odd _⟩))) | exact Or.inr (Or.inr (Or.inr (Or.inr ⟨rfl, HP.tok_even _⟩))) | exact Or.inr (Or.inr (Or.inr (Or.inr ⟨rfl, by assumption⟩))) | exact Or.inr ⟨rfl, by assumption⟩ | exact Or.inr (Or.inl ⟨rfl, by assumption⟩) | exact Or.inr (Or.inr ⟨rfl, by assumption⟩) | exact Or.inr (Or.inr (Or.inr (Or.inl ⟨rfl, by assumption⟩))) | exact Or.inr (Or.inr (Or.inl ⟨rfl, HP.tok_odd _⟩)) | exact Or.inr (Or.inr (Or.inl ⟨rfl, by assumption⟩)) | exact Or.inr (Or.inr (Or.inr rfl)) | exact Or.inr (Or.inr rfl) | exact Or.inr rfl) rfl hg (gL_get (by omega)) ?_
      repeat (first | refine S0 ?_ | refine S1 ?_ | refine S2 ?_ | refine S3 ?_ | refine S4 ?_ | refine S5 ?_ | refine S6 ?_ | refine S8 ?_ | refine S10 ?_ | refine S11 ?_ | refine S13 ?_ | refine S15 ?_ | refine S16 ?_ | refine S19 ?_ | refine S20 ?_ | refine S21 ?_ | refine S22 ?_ | refine S24 ?_ | refine S25 ?_ | refine S26 ?_ | refine S27 ?_ | refine S34 ?_ | refine S45 ?_ | refine S46 ?_ | refine S49 ?_ | refine S63 ?_ | refine S65 ?_ | refine S67 ?_ | refine S89 ?_ | refine S92 ?_)
      rw [oL_get hk, look_at C.lv.nd hk]
      repeat (first | refine S0 ?_ | refine S1 ?_ | refine S2 ?_ | refine S3 ?_ | refine S4 ?_ | refine S5 ?_ | refine S6 ?_ | refine S8 ?_ | refine S10 ?_ | refine S11 ?_ | refine S13 ?_ | refine S15 ?_ | refine S16 ?_ | refine S19 ?_ | refine S20 ?_ | refine S21 ?_ | refine S22 ?_ | refine S24 ?_ | refine S25 ?_ | refine S26 ?_ | refine S27 ?_ | refine S34 ?_ | refine S45 ?_ | refine S46 ?_ | refine S49 ?_ | refine S63 ?_ | refine S65 ?_ | refine S67 ?_ | refine S89 ?_ | refine S92 ?_)
      have hxS : x < (S i).length := by omega
      obtain ⟨p1, p2, p3⟩ := C.prdP hk hxS
      obtain ⟨u, hu⟩ : ∃ u, u = ((R i).getD k (0, id)).2 := ⟨_, rfl⟩
      have hum : (((R i).getD k (0, id)).1, u) ∈ R i := by rw [hu]; exact mem_getD hk (0, id)
      have kt : SC Try.prog 47 [pli (tabN n ((R i).getD k (0, id)).2), pli (tabN n ((S i).getD x id))] (pli (tabN n (prd R S i k x))) := then_p (by rw [← hu]; exact (C.lv.r _ _ hum).1) hn
      refine Scall (args := [pli (tabN n ((R i).getD k (0, id)).2), pli (tabN n ((S i).getD x id))]) kt ?_
      have hvl := tab_len n (prd R S i k x)
      have hvi := tabN_get (F := prd R S i k x) hi
      repeat (first | refine S0 ?_ | refine S1 ?_ | refine S2 ?_ | refine S3 ?_ | refine S4 ?_ | refine S5 ?_ | refine S6 ?_ | refine S8 ?_ | refine S10 ?_ | refine S11 ?_ | refine S13 ?_ | refine S15 ?_ | refine S16 ?_ | refine S19 ?_ | refine S20 ?_ | refine S21 ?_ | refine S22 ?_ | refine S24 ?_ | refine S25 ?_ | refine S26 ?_ | refine S27 ?_ | refine S34 ?_ | refine S45 ?_ | refine S46 ?_ | refine S49 ?_ | refine S63 ?_ | refine S65 ?_ | refine S67 ?_ | refine S89 ?_ | refine S92 ?_)
      rw [hvi]
      repeat (first | refine S0 ?_ | refine S1 ?_ | refine S2 ?_ | refine S3 ?_ | refine S4 ?_ | refine S5 ?_ | refine S6 ?_ | refine S8 ?_ | refine S10 ?_ | refine S11 ?_ | refine S13 ?_ | refine S15 ?_ | refine S16 ?_ | refine S19 ?_ | refine S20 ?_ | refine S21 ?_ | refine S22 ?_ | refine S24 ?_ | refine S25 ?_ | refine S26 ?_ | refine S27 ?_ | refine S34 ?_ | refine S45 ?_ | refine S46 ?_ | refine S49 ?_ | refine S63 ?_ | refine S65 ?_ | refine S67 ?_ | refine S89 ?_ | refine S92 ?_)
      by_cases hw : ∃ w, (prd R S i k x i, w) ∈ R i
      · obtain ⟨w, hw⟩ := hw
        have hw2 := kL_mem.2 ⟨w, hw⟩
        rw [look_some C.lv.nd hw]
        have hwp := (C.lv.r _ _ hw).1
        obtain ⟨q1, q2, q3⟩ := C.rest hn hi hk hxS hw
        have kb : SC Try.prog 47 [pli (tabN n (prd R S i k x)), pli (tabN n (iv n w))] (pli (tabN n (cmp (prd R S i k x) (iv n w)))) := then_p p1 hn
        repeat (first | refine S0 ?_ | refine S1 ?_ | refine S2 ?_ | refine S3 ?_ | refine S4 ?_ | refine S5 ?_ | refine S6 ?_ | refine S8 ?_ | refine S10 ?_ | refine S11 ?_ | refine S13 ?_ | refine S15 ?_ | refine S16 ?_ | refine S19 ?_ | refine S20 ?_ | refine S21 ?_ | refine S22 ?_ | refine S24 ?_ | refine S25 ?_ | refine S26 ?_ | refine S27 ?_ | refine S34 ?_ | refine S45 ?_ | refine S46 ?_ | refine S49 ?_ | refine S63 ?_ | refine S65 ?_ | refine S67 ?_ | refine S89 ?_ | refine S92 ?_)
        refine Scall (args := [pli (tabN n w)]) (back_p hwp hn) ?_
        repeat (first | refine S0 ?_ | refine S1 ?_ | refine S2 ?_ | refine S3 ?_ | refine S4 ?_ | refine S5 ?_ | refine S6 ?_ | refine S8 ?_ | refine S10 ?_ | refine S11 ?_ | refine S13 ?_ | refine S15 ?_ | refine S16 ?_ | refine S19 ?_ | refine S20 ?_ | refine S21 ?_ | refine S22 ?_ | refine S24 ?_ | refine S25 ?_ | refine S26 ?_ | refine S27 ?_ | refine S34 ?_ | refine S45 ?_ | refine S46 ?_ | refine S49 ?_ | refine S63 ?_ | refine S65 ?_ | refine S67 ?_ | refine S89 ?_ | refine S92 ?_)
        refine Scall (args := [pli (tabN n (prd R S i k x)), pli (tabN n (iv n w))]) kb ?_
        repeat (first | refine S0 ?_ | refine S1 ?_ | refine S2 ?_ | refine S3 ?_ | refine S4 ?_ | refine S5 ?_ | refine S6 ?_ | refine S8 ?_ | refine S10 ?_ | refine S11 ?_ | refine S13 ?_ | refine S15 ?_ | refine S16 ?_ | refine S19 ?_ | refine S20 ?_ | refine S21 ?_ | refine S22 ?_ | refine S24 ?_ | refine S25 ?_ | refine S26 ?_ | refine S27 ?_ | refine S34 ?_ | refine S45 ?_ | refine S46 ?_ | refine S49 ?_ | refine S63 ?_ | refine S65 ?_ | refine S67 ?_ | refine S89 ?_ | refine S92 ?_)
        rw [show (i : Int) + 1 = ((i + 1 : Nat) : Int) by omega]
        refine Scalle (args := [chn n vt, pli (tabN n (cmp (prd R S i k x) (iv n w))), pint (i + 1 : Nat)]) (hadd hp et R S _ H C.good q1 q2) ?_
        rintro r h' ⟨et', R', S', H', A, e'⟩
        repeat (first | refine S0 ?_ | refine S1 ?_ | refine S2 ?_ | refine S3 ?_ | refine S4 ?_ | refine S5 ?_ | refine S6 ?_ | refine S8 ?_ | refine S10 ?_ | refine S11 ?_ | refine S13 ?_ | refine S15 ?_ | refine S16 ?_ | refine S19 ?_ | refine S20 ?_ | refine S21 ?_ | refine S22 ?_ | refine S24 ?_ | refine S25 ?_ | refine S26 ?_ | refine S27 ?_ | refine S34 ?_ | refine S45 ?_ | refine S46 ?_ | refine S49 ?_ | refine S63 ?_ | refine S65 ?_ | refine S67 ?_ | refine S89 ?_ | refine S92 ?_)
        exact ⟨(x + 1, et', R', S'), ⟨C.added hi hk hxS hw q3 A, by simp only; rw [A.lowR i (by omega)]; exact hk, hx2, fun a ha => by simp only; rw [e' a (by omega)]; exact he a ha, by simp only; rw [e' _ (by omega)]; exact hg0⟩, SLx, H', by simp only; omega⟩
      · have hw2 : [(prd R S i k x i : Int)] ∉ kL (R i) := fun h => hw (kL_mem.1 h)
        have hnew : ∀ w, (prd R S i k x i, w) ∉ R i := fun w h => hw ⟨w, h⟩
        obtain ⟨i1, i2⟩ := ins_new (n := n) (u := prd R S i k x) hnew
        repeat (first | refine S0 ?_ | refine S1 ?_ | refine S2 ?_ | refine S3 ?_ | refine S4 ?_ | refine S5 ?_ | refine S6 ?_ | refine S8 ?_ | refine S10 ?_ | refine S11 ?_ | refine S13 ?_ | refine S15 ?_ | refine S16 ?_ | refine S19 ?_ | refine S20 ?_ | refine S21 ?_ | refine S22 ?_ | refine S24 ?_ | refine S25 ?_ | refine S26 ?_ | refine S27 ?_ | refine S34 ?_ | refine S45 ?_ | refine S46 ?_ | refine S49 ?_ | refine S63 ?_ | refine S65 ?_ | refine S67 ?_ | refine S89 ?_ | refine S92 ?_)
        rw [hvi, i1, i2]
        repeat (first | refine S0 ?_ | refine S1 ?_ | refine S2 ?_ | refine S3 ?_ | refine S4 ?_ | refine S5 ?_ | refine S6 ?_ | refine S8 ?_ | refine S10 ?_ | refine S11 ?_ | refine S13 ?_ | refine S15 ?_ | refine S16 ?_ | refine S19 ?_ | refine S20 ?_ | refine S21 ?_ | refine S22 ?_ | refine S24 ?_ | refine S25 ?_ | refine S26 ?_ | refine S27 ?_ | refine S34 ?_ | refine S45 ?_ | refine S46 ?_ | refine S49 ?_ | refine S63 ?_ | refine S65 ?_ | refine S67 ?_ | refine S89 ?_ | refine S92 ?_)
        refine ⟨(x + 1, ovr et (2 * i + 1) (2 * hp.next), addR R i (prd R S i k x), S), ⟨C.reach hn hi hk hxS hnew, by simp only; rw [addR_same, List.length_append]; omega, hx2, fun a ha => by simp only; rw [ovr_ne _ _ (by omega)]; exact he a ha, by simp only; rw [ovr_ne _ _ (by omega)]; exact hg0⟩, SLx, ?_, by simp only; omega⟩
        simp only
        rw [← hg0]
        exact H.pushR hi (prd R S i k x) (HP.tokF _)
    · obtain rfl : x = m := by omega
      repeat (first | refine S0 ?_ | refine S1 ?_ | refine S2 ?_ | refine S3 ?_ | refine S4 ?_ | refine S5 ?_ | refine S6 ?_ | refine S8 ?_ | refine S10 ?_ | refine S11 ?_ | refine S13 ?_ | refine S15 ?_ | refine S16 ?_ | refine S19 ?_ | refine S20 ?_ | refine S21 ?_ | refine S22 ?_ | refine S24 ?_ | refine S25 ?_ | refine S26 ?_ | refine S27 ?_ | refine S34 ?_ | refine S45 ?_ | refine S46 ?_ | refine S49 ?_ | refine S63 ?_ | refine S65 ?_ | refine S67 ?_ | refine S89 ?_ | refine S92 ?_)
      exact ⟨(k + 1, et, R, S), ⟨C.next (by omega), hk, he⟩, SLx, H, by simp only; omega⟩
  · repeat (first | refine S0 ?_ | refine S1 ?_ | refine S2 ?_ | refine S3 ?_ | refine S4 ?_ | refine S5 ?_ | refine S6 ?_ | refine S8 ?_ | refine S10 ?_ | refine S11 ?_ | refine S13 ?_ | refine S15 ?_ | refine S16 ?_ | refine S19 ?_ | refine S20 ?_ | refine S21 ?_ | refine S22 ?_ | refine S24 ?_ | refine S25 ?_ | refine S26 ?_ | refine S27 ?_ | refine S34 ?_ | refine S45 ?_ | refine S46 ?_ | refine S49 ?_ | refine S63 ?_ | refine S65 ?_ | refine S67 ?_ | refine S89 ?_ | refine S92 ?_)
    exact ⟨.inl rfl, _, rfl, et, R, S, H, C.done hi (by omega), he⟩
end Go.Proofs.Ythacglggkgmbhaa
