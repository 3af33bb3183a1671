/- timbref1.Zeros: all vectors are tried. No condition of its own. -/
import Derived.Test.YteecmiagfjjefaaGMatrixSolutionsBP
import Derived.Test.YteecmiagfjjefaaGMatrixSolutionsBN
import Derived.Test.YteecmiagfjjefaaGMatrixSolutionsBQ
set_option linter.unusedVariables false
set_option linter.unusedSimpArgs false
namespace Go.Proofs.Yteecmiagfjjefaa
open Go.RowKit

/-- the variable tb holds the vector v, which lies at tv -/
structure HV (tb tv : Nat) (v : List Nat) (h : HP) : Prop where
  b : h.blk tb = some [.ref tv 0 1 v.length]
  v : h.blk tv = some (ints (nvi v))
  lb : tb < 2 * h.next
  lv : tv < 2 * h.next
theorem HV.fr {tb tv : Nat} {v : List Nat} {h h' : HP} (H : HV tb tv v h) (f : Fr [] h h') : HV tb tv v h' :=
  ⟨by rw [f.blk _ H.lb (by simp)]; exact H.b, by rw [f.blk _ H.lv (by simp)]; exact H.v, by have := f.next; have := H.lb; omega, by have := f.next; have := H.lv; omega⟩
set_option maxHeartbeats 16000000 in
set_option maxRecDepth 100000 in
theorem zer1_e {q tb tv : Nat} (hq : 1 ≤ q ∧ q ≤ 13) (ho : tb % 2 = 1) (he : tv % 2 = 0) {v : List Nat} {r : List Int} (hk : v.length ≤ 6) (hl : r.length = v.length) (hr : ∀ j, -100 ≤ r.getD j 0 ∧ r.getD j 0 ≤ 100) (hv : ∀ j, j < v.length → v.getD j 0 < q) (h : HP) (H : HV tb tv v h) :
    SChE Try.prog 25 [pli r, .ptr tb 0, .lptr [pint q]] h (fun r' h' => r' = .sc (.bool (decide (¬ (q : Int) ∣ dotI r v v.length))) ∧ Fr [] h h') := by
  obtain ⟨b1, b2, b3, b4⟩ := H
  refine SChE.go {} tok mixed Try.func25 rfl rfl Try.ntmps25 rfl rfl (by kernel_rfl) (fun hw => ?_)
  first | simp only [updS] | simp only [updL, Nat.reduceAdd]
  repeat (first | refine S0 ?_ | refine S1 ?_ | refine S2 ?_ | refine S3 ?_ | refine S4 ?_ | refine S5 ?_ | refine S6 ?_ | refine S7 ?_ | refine S8 ?_ | refine S9 ?_ | refine S10 ?_ | refine S11 ?_ | refine S12 ?_ | refine S13 ?_ | refine S15 ?_ | refine S16 ?_ | refine S19 ?_ | refine S20 ?_ | refine S21 ?_ | refine S22 ?_ | refine S23 ?_ | refine S25 ?_ | refine S26 ?_ | refine S27 ?_ | refine S28 ?_ | refine S29 ?_ | refine S32 ?_ | refine S33 ?_ | refine S36 ?_ | refine S37 ?_ | refine S38 ?_ | refine S40 ?_ | refine S41 ?_ | refine S46 ?_ | refine S51 ?_ | refine S56 ?_ | refine S65 ?_ | refine S68 ?_ | refine S71 ?_ | refine S73 ?_ | refine S76 ?_)
  refine CW.loopS (fun i : Nat => i ≤ v.length) (fun i => [(1, .ptr tb 0), (2, .lptr [pint q]), (5, pint (dotI r v i)), (8, pli r), (9, pint r.length), (10, pint i)]) (fun _ h' => h' = h) (fun i => v.length - i) 0 ⟨Nat.zero_le _, SLx, rfl⟩ ?_
  rintro i t hp hi rfl
  first | simp only [updS] | simp only [updL, Nat.reduceAdd]
  have hd := dotI_bd hq.2 hr hv i hi
  by_cases hi2 : i < v.length
  · have hm := mul_bd100 (hr i) (hv i hi2) hq.2
    have hg := nvi_get v i
    have hnl := nvi_len v
    have hs := dotI_succ r v i
    have hvi := hv i hi2
    repeat (first | refine S0 ?_ | refine S1 ?_ | refine S2 ?_ | refine S3 ?_ | refine S4 ?_ | refine S5 ?_ | refine S6 ?_ | refine S7 ?_ | refine S8 ?_ | refine S9 ?_ | refine S10 ?_ | refine S11 ?_ | refine S12 ?_ | refine S13 ?_ | refine S15 ?_ | refine S16 ?_ | refine S19 ?_ | refine S20 ?_ | refine S21 ?_ | refine S22 ?_ | refine S23 ?_ | refine S25 ?_ | refine S26 ?_ | refine S27 ?_ | refine S28 ?_ | refine S29 ?_ | refine S32 ?_ | refine S33 ?_ | refine S36 ?_ | refine S37 ?_ | refine S38 ?_ | refine S40 ?_ | refine S41 ?_ | refine S46 ?_ | refine S51 ?_ | refine S56 ?_ | refine S65 ?_ | refine S68 ?_ | refine S71 ?_ | refine S73 ?_ | refine S76 ?_)
    rw [hg]
    repeat (first | refine S0 ?_ | refine S1 ?_ | refine S2 ?_ | refine S3 ?_ | refine S4 ?_ | refine S5 ?_ | refine S6 ?_ | refine S7 ?_ | refine S8 ?_ | refine S9 ?_ | refine S10 ?_ | refine S11 ?_ | refine S12 ?_ | refine S13 ?_ | refine S15 ?_ | refine S16 ?_ | refine S19 ?_ | refine S20 ?_ | refine S21 ?_ | refine S22 ?_ | refine S23 ?_ | refine S25 ?_ | refine S26 ?_ | refine S27 ?_ | refine S28 ?_ | refine S29 ?_ | refine S32 ?_ | refine S33 ?_ | refine S36 ?_ | refine S37 ?_ | refine S38 ?_ | refine S40 ?_ | refine S41 ?_ | refine S46 ?_ | refine S51 ?_ | refine S56 ?_ | refine S65 ?_ | refine S68 ?_ | refine S71 ?_ | refine S73 ?_ | refine S76 ?_)
    rw [← hs]
    exact ⟨i + 1, hi2, SLx, rfl, by omega⟩
  · obtain rfl : i = v.length := by omega
    repeat (first | refine S0 ?_ | refine S1 ?_ | refine S2 ?_ | refine S3 ?_ | refine S4 ?_ | refine S5 ?_ | refine S6 ?_ | refine S7 ?_ | refine S8 ?_ | refine S9 ?_ | refine S10 ?_ | refine S11 ?_ | refine S12 ?_ | refine S13 ?_ | refine S15 ?_ | refine S16 ?_ | refine S19 ?_ | refine S20 ?_ | refine S21 ?_ | refine S22 ?_ | refine S23 ?_ | refine S25 ?_ | refine S26 ?_ | refine S27 ?_ | refine S28 ?_ | refine S29 ?_ | refine S32 ?_ | refine S33 ?_ | refine S36 ?_ | refine S37 ?_ | refine S38 ?_ | refine S40 ?_ | refine S41 ?_ | refine S46 ?_ | refine S51 ?_ | refine S56 ?_ | refine S65 ?_ | refine S68 ?_ | refine S71 ?_ | refine S73 ?_ | refine S76 ?_)
    refine ⟨.inr rfl, _, ⟨_, rfl, rfl⟩, ?_, Fr.refl _ _⟩
    have e : (!decide ((dotI r v v.length).tmod q = 0)) = decide (¬ (q : Int) ∣ dotI r v v.length) := by
      rw [decide_not, decide_eq_decide.2 (Int.dvd_iff_tmod_eq_zero (a := (q : Int)) (b := dotI r v v.length))]
    rw [← e]; rfl
set_option maxHeartbeats 16000000 in
set_option maxRecDepth 100000 in
/-- slices.IndexFunc over rows, by a function that reads what the caller has -/
theorem ixrows_e {m : List (List Int)} {f : FuncId} {cap : List PV} {I : HP → Prop} (hI : ∀ h h', I h → Fr [] h h' → I h') (p : List Int → Bool) (hm : m.length ≤ 1000000) (hcl : ∀ r ∈ m, ∀ h, I h → SChE Try.prog f (pli r :: cap) h (fun r' h' => r' = .sc (.bool (p r)) ∧ Fr [] h h')) (h : HP) (h0 : I h) :
    SChE Try.prog 34 [plls m, .clo f cap] h (fun r' h' => (∃ z : Int, r' = pint z ∧ decide (0 ≤ z) = m.any p) ∧ Fr [] h h') := by
  refine SChE.go {} tok mixed Try.func34 rfl rfl Try.ntmps34 rfl rfl (by kernel_rfl) (fun hw => ?_)
  first | simp only [updS] | simp only [updL, Nat.reduceAdd]
  repeat (first | refine S0 ?_ | refine S1 ?_ | refine S2 ?_ | refine S3 ?_ | refine S4 ?_ | refine S5 ?_ | refine S6 ?_ | refine S7 ?_ | refine S8 ?_ | refine S9 ?_ | refine S10 ?_ | refine S11 ?_ | refine S12 ?_ | refine S13 ?_ | refine S15 ?_ | refine S16 ?_ | refine S19 ?_ | refine S20 ?_ | refine S21 ?_ | refine S22 ?_ | refine S23 ?_ | refine S25 ?_ | refine S26 ?_ | refine S27 ?_ | refine S28 ?_ | refine S29 ?_ | refine S32 ?_ | refine S33 ?_ | refine S36 ?_ | refine S37 ?_ | refine S38 ?_ | refine S40 ?_ | refine S41 ?_ | refine S46 ?_ | refine S51 ?_ | refine S56 ?_ | refine S65 ?_ | refine S68 ?_ | refine S71 ?_ | refine S73 ?_ | refine S76 ?_)
  refine CW.loopS (fun i : Nat => i ≤ m.length ∧ (m.take i).any p = false) (fun i => [(0, plls m), (1, .clo f cap), (7, pint m.length), (8, pint i)]) (fun _ h' => Fr [] h h') (fun i => m.length - i) 0 ⟨⟨Nat.zero_le _, by simp⟩, SLx, Fr.refl _ _⟩ ?_
  rintro i t hp ⟨hi, hn⟩ hf
  first | simp only [updS] | simp only [updL, Nat.reduceAdd]
  by_cases hi2 : i < m.length
  · have hmem : m.getD i [] ∈ m := by rw [show m.getD i [] = m[i] by simp [List.getD, hi2]]; exact List.getElem_mem hi2
    have hc := hcl _ hmem hp (hI _ _ h0 hf)
    have hs : (m.take (i + 1)).any p = ((m.take i).any p || p (m.getD i [])) := by
      rw [List.take_add_one, List.getElem?_eq_getElem hi2, List.any_append]
      simp [List.getD, hi2]
    repeat (first | refine S0 ?_ | refine S1 ?_ | refine S2 ?_ | refine S3 ?_ | refine S4 ?_ | refine S5 ?_ | refine S6 ?_ | refine S7 ?_ | refine S8 ?_ | refine S9 ?_ | refine S10 ?_ | refine S11 ?_ | refine S12 ?_ | refine S13 ?_ | refine S15 ?_ | refine S16 ?_ | refine S19 ?_ | refine S20 ?_ | refine S21 ?_ | refine S22 ?_ | refine S23 ?_ | refine S25 ?_ | refine S26 ?_ | refine S27 ?_ | refine S28 ?_ | refine S29 ?_ | refine S32 ?_ | refine S33 ?_ | refine S36 ?_ | refine S37 ?_ | refine S38 ?_ | refine S40 ?_ | refine S41 ?_ | refine S46 ?_ | refine S51 ?_ | refine S56 ?_ | refine S65 ?_ | refine S68 ?_ | refine S71 ?_ | refine S73 ?_ | refine S76 ?_)
    refine AW.callve (f := f) (cap := cap) (args := pli (m.getD i []) :: cap) rfl rfl rfl hc ?_
    rintro r' h' ⟨rfl, hf'⟩
    by_cases hb : p (m.getD i []) = true
    · rw [hb]
      repeat (first | refine S0 ?_ | refine S1 ?_ | refine S2 ?_ | refine S3 ?_ | refine S4 ?_ | refine S5 ?_ | refine S6 ?_ | refine S7 ?_ | refine S8 ?_ | refine S9 ?_ | refine S10 ?_ | refine S11 ?_ | refine S12 ?_ | refine S13 ?_ | refine S15 ?_ | refine S16 ?_ | refine S19 ?_ | refine S20 ?_ | refine S21 ?_ | refine S22 ?_ | refine S23 ?_ | refine S25 ?_ | refine S26 ?_ | refine S27 ?_ | refine S28 ?_ | refine S29 ?_ | refine S32 ?_ | refine S33 ?_ | refine S36 ?_ | refine S37 ?_ | refine S38 ?_ | refine S40 ?_ | refine S41 ?_ | refine S46 ?_ | refine S51 ?_ | refine S56 ?_ | refine S65 ?_ | refine S68 ?_ | refine S71 ?_ | refine S73 ?_ | refine S76 ?_)
      refine ⟨.inr rfl, _, ⟨_, rfl, rfl⟩, ⟨i, rfl, ?_⟩, hf.trans hf' (by simp)⟩
      have : m.any p = true := List.any_eq_true.2 ⟨_, hmem, hb⟩
      rw [this]; simp
    · have hb : p (m.getD i []) = false := by simpa using hb
      rw [hb]
      repeat (first | refine S0 ?_ | refine S1 ?_ | refine S2 ?_ | refine S3 ?_ | refine S4 ?_ | refine S5 ?_ | refine S6 ?_ | refine S7 ?_ | refine S8 ?_ | refine S9 ?_ | refine S10 ?_ | refine S11 ?_ | refine S12 ?_ | refine S13 ?_ | refine S15 ?_ | refine S16 ?_ | refine S19 ?_ | refine S20 ?_ | refine S21 ?_ | refine S22 ?_ | refine S23 ?_ | refine S25 ?_ | refine S26 ?_ | refine S27 ?_ | refine S28 ?_ | refine S29 ?_ | refine S32 ?_ | refine S33 ?_ | refine S36 ?_ | refine S37 ?_ | refine S38 ?_ | refine S40 ?_ | refine S41 ?_ | refine S46 ?_ | refine S51 ?_ | refine S56 ?_ | refine S65 ?_ | refine S68 ?_ | refine S71 ?_ | refine S73 ?_ | refine S76 ?_)
      exact ⟨i + 1, ⟨hi2, by rw [hs, hn, hb]; rfl⟩, SLx, hf.trans hf' (by simp), by omega⟩
  · obtain rfl : i = m.length := by omega
    repeat (first | refine S0 ?_ | refine S1 ?_ | refine S2 ?_ | refine S3 ?_ | refine S4 ?_ | refine S5 ?_ | refine S6 ?_ | refine S7 ?_ | refine S8 ?_ | refine S9 ?_ | refine S10 ?_ | refine S11 ?_ | refine S12 ?_ | refine S13 ?_ | refine S15 ?_ | refine S16 ?_ | refine S19 ?_ | refine S20 ?_ | refine S21 ?_ | refine S22 ?_ | refine S23 ?_ | refine S25 ?_ | refine S26 ?_ | refine S27 ?_ | refine S28 ?_ | refine S29 ?_ | refine S32 ?_ | refine S33 ?_ | refine S36 ?_ | refine S37 ?_ | refine S38 ?_ | refine S40 ?_ | refine S41 ?_ | refine S46 ?_ | refine S51 ?_ | refine S56 ?_ | refine S65 ?_ | refine S68 ?_ | refine S71 ?_ | refine S73 ?_ | refine S76 ?_)
    refine ⟨.inr rfl, _, ⟨_, rfl, rfl⟩, ⟨-1, rfl, ?_⟩, hf⟩
    rw [List.take_length] at hn
    rw [hn]; rfl
set_option maxHeartbeats 16000000 in
set_option maxRecDepth 100000 in
theorem corows_e {m : List (List Int)} {f : FuncId} {cap : List PV} {I : HP → Prop} (hI : ∀ h h', I h → Fr [] h h' → I h') (p : List Int → Bool) (hm : m.length ≤ 1000000) (hcl : ∀ r ∈ m, ∀ h, I h → SChE Try.prog f (pli r :: cap) h (fun r' h' => r' = .sc (.bool (p r)) ∧ Fr [] h h')) (h : HP) (h0 : I h) :
    SChE Try.prog 24 [plls m, .clo f cap] h (fun r' h' => r' = .sc (.bool (m.any p)) ∧ Fr [] h h') := by
  have k := ixrows_e hI p hm hcl h h0
  refine SChE.go {} tok mixed Try.func24 rfl rfl Try.ntmps24 rfl rfl (by kernel_rfl) (fun hw => ?_)
  first | simp only [updS] | simp only [updL, Nat.reduceAdd]
  repeat (first | refine S0 ?_ | refine S1 ?_ | refine S2 ?_ | refine S3 ?_ | refine S4 ?_ | refine S5 ?_ | refine S6 ?_ | refine S7 ?_ | refine S8 ?_ | refine S9 ?_ | refine S10 ?_ | refine S11 ?_ | refine S12 ?_ | refine S13 ?_ | refine S15 ?_ | refine S16 ?_ | refine S19 ?_ | refine S20 ?_ | refine S21 ?_ | refine S22 ?_ | refine S23 ?_ | refine S25 ?_ | refine S26 ?_ | refine S27 ?_ | refine S28 ?_ | refine S29 ?_ | refine S32 ?_ | refine S33 ?_ | refine S36 ?_ | refine S37 ?_ | refine S38 ?_ | refine S40 ?_ | refine S41 ?_ | refine S46 ?_ | refine S51 ?_ | refine S56 ?_ | refine S65 ?_ | refine S68 ?_ | refine S71 ?_ | refine S73 ?_ | refine S76 ?_)
  refine Scalle (args := [plls m, .clo f cap]) k ?_
  rintro r' h' ⟨⟨z, rfl, hz⟩, hf⟩
  repeat (first | refine S0 ?_ | refine S1 ?_ | refine S2 ?_ | refine S3 ?_ | refine S4 ?_ | refine S5 ?_ | refine S6 ?_ | refine S7 ?_ | refine S8 ?_ | refine S9 ?_ | refine S10 ?_ | refine S11 ?_ | refine S12 ?_ | refine S13 ?_ | refine S15 ?_ | refine S16 ?_ | refine S19 ?_ | refine S20 ?_ | refine S21 ?_ | refine S22 ?_ | refine S23 ?_ | refine S25 ?_ | refine S26 ?_ | refine S27 ?_ | refine S28 ?_ | refine S29 ?_ | refine S32 ?_ | refine S33 ?_ | refine S36 ?_ | refine S37 ?_ | refine S38 ?_ | refine S40 ?_ | refine S41 ?_ | refine S46 ?_ | refine S51 ?_ | refine S56 ?_ | refine S65 ?_ | refine S68 ?_ | refine S71 ?_ | refine S73 ?_ | refine S76 ?_)
  rw [hz]
  exact ⟨.inr rfl, _, ⟨_, rfl, rfl⟩, rfl, hf⟩
set_option maxHeartbeats 16000000 in
set_option maxRecDepth 100000 in
theorem zeros_s {m : List (List Int)} {n k q : Nat} (hM : Mx m n k) (hq : 1 ≤ q ∧ q ≤ 13) (hall : q ^ k ≤ 20000) : SC Try.prog 12 [plls m, pint k, pint q] (pint (((List.range (q ^ k)).filter fun t => !badV m k q (dig q k t)).length : Nat)) := by
  have hk6 := hM.hk
  have hn6 := hM.hn
  have hlen := hM.len
  refine SC.go { mt := [] } tok mixed Try.func12 rfl rfl Try.ntmps12 rfl rfl (by kernel_rfl) ?_
  first | simp only [updS] | simp only [updL, Nat.reduceAdd]
  repeat (first | refine S0 ?_ | refine S1 ?_ | refine S2 ?_ | refine S3 ?_ | refine S4 ?_ | refine S5 ?_ | refine S6 ?_ | refine S7 ?_ | refine S8 ?_ | refine S9 ?_ | refine S10 ?_ | refine S11 ?_ | refine S12 ?_ | refine S13 ?_ | refine S15 ?_ | refine S16 ?_ | refine S19 ?_ | refine S20 ?_ | refine S21 ?_ | refine S22 ?_ | refine S23 ?_ | refine S25 ?_ | refine S26 ?_ | refine S27 ?_ | refine S28 ?_ | refine S29 ?_ | refine S32 ?_ | refine S33 ?_ | refine S36 ?_ | refine S37 ?_ | refine S38 ?_ | refine S40 ?_ | refine S41 ?_ | refine S46 ?_ | refine S51 ?_ | refine S56 ?_ | refine S65 ?_ | refine S68 ?_ | refine S71 ?_ | refine S73 ?_ | refine S76 ?_)
  have hinc := fun t h => dig_inc (m := q) hq.1 k t h
  have hpos : 0 < q ^ k := Nat.pow_pos (by omega)
  refine CW.loopS (fun i : Nat × Nat × Nat => i.1 < q ^ k ∧ i.2.1 % 2 = 1 ∧ i.2.2 % 2 = 0) (fun i => [(0, plls m), (1, pint k), (2, pint q), (5, .lptr [pint q]), (7, pint (((List.range i.1).filter fun t => !badV m k q (dig q k t)).length : Nat)), (8, .ptr i.2.1 0)]) (fun i h => HV i.2.1 i.2.2 (dig q k i.1) h) (fun i => q ^ k - i.1) (0, 3, 0)
    ⟨⟨hpos, by decide, by decide⟩, SLx, ⟨by rw [dig_len]; exact HBx, by rw [dig_zero hq.1, show nvi (List.replicate k 0) = List.replicate k (0 : Int) by simp [nvi]]; exact HBx, by show 3 < 2 * 2; decide, by show 0 < 2 * 2; decide⟩⟩ ?_
  rintro ⟨e, tb, tv⟩ t hp ⟨he, ho, hev⟩ H
  simp only at he ho hev H
  first | simp only [updS] | simp only [updL, Nat.reduceAdd]
  have hvl : (dig q k e).length = k := dig_len q k e
  have hvd := dig_lt hq.1 k e
  have hlast := fun j hj h => dig_last (q := q) (k := k) (t := e) hq.1 (j := j) hj h he
  have hfull := dig_full (q := q) (k := k) (t := e) hq.1 he
  have hi1 := hinc e
  have hrow : ∀ r ∈ m, r.length = k ∧ ∀ j, -100 ≤ r.getD j 0 ∧ r.getD j 0 ≤ 100 := fun r hr => by
    obtain ⟨i, hi, rfl⟩ := List.getElem_of_mem hr
    have e1 : m.getD i [] = m[i] := by simp [List.getD, hi]
    exact ⟨by rw [← e1]; exact hM.row i (by omega), fun j => by rw [← e1]; exact hM.bd i j⟩
  have hcnt : ((List.range (e + 1)).filter fun t => !badV m k q (dig q k t)).length = ((List.range e).filter fun t => !badV m k q (dig q k t)).length + (if badV m k q (dig q k e) then 0 else 1) := by
    rw [List.range_succ, List.filter_append, List.length_append]
    congr 1
    simp only [List.filter_cons, List.filter_nil]
    cases badV m k q (dig q k e) <;> rfl
  have hcb : ((List.range e).filter fun t => !badV m k q (dig q k t)).length ≤ e := Nat.le_trans (List.length_filter_le _ _) (by simp)
  have kc := corows_e (m := m) (I := HV tb tv (dig q k e)) (fun h h' H f => H.fr f) (fun r => decide (¬ (q : Int) ∣ dotI r (dig q k e) k)) (by omega) (fun r hr h H => by
    have := zer1_e hq ho hev (v := dig q k e) (r := r) (by omega) (by rw [(hrow r hr).1]; exact hvl.symm) (hrow r hr).2 (fun j hj => hvd j (by omega)) h H
    rwa [hvl] at this) hp H
  rw [show (m.any fun r => decide (¬ (q : Int) ∣ dotI r (dig q k e) k)) = badV m k q (dig q k e) from rfl] at kc
  generalize dig q k e = v at *
  generalize hQ : ((List.range e).filter fun t => !badV m k q (dig q k t)).length = many at *
  repeat (first | refine S0 ?_ | refine S1 ?_ | refine S2 ?_ | refine S3 ?_ | refine S4 ?_ | refine S5 ?_ | refine S6 ?_ | refine S7 ?_ | refine S8 ?_ | refine S9 ?_ | refine S10 ?_ | refine S11 ?_ | refine S12 ?_ | refine S13 ?_ | refine S15 ?_ | refine S16 ?_ | refine S19 ?_ | refine S20 ?_ | refine S21 ?_ | refine S22 ?_ | refine S23 ?_ | refine S25 ?_ | refine S26 ?_ | refine S27 ?_ | refine S28 ?_ | refine S29 ?_ | refine S32 ?_ | refine S33 ?_ | refine S36 ?_ | refine S37 ?_ | refine S38 ?_ | refine S40 ?_ | refine S41 ?_ | refine S46 ?_ | refine S51 ?_ | refine S56 ?_ | refine S65 ?_ | refine S68 ?_ | refine S71 ?_ | refine S73 ?_ | refine S76 ?_)
  refine Scalle (args := [plls m, .clo 25 [.ptr tb 0, .lptr [pint q]]]) kc ?_
  rintro r' h' ⟨rfl, hf⟩
  have H' := H.fr hf
  iterate 3 (first | refine S0 ?_ | refine S1 ?_ | refine S2 ?_ | refine S3 ?_ | refine S4 ?_ | refine S5 ?_ | refine S6 ?_ | refine S7 ?_ | refine S8 ?_ | refine S9 ?_ | refine S10 ?_ | refine S11 ?_ | refine S12 ?_ | refine S13 ?_ | refine S15 ?_ | refine S16 ?_ | refine S19 ?_ | refine S20 ?_ | refine S21 ?_ | refine S22 ?_ | refine S23 ?_ | refine S25 ?_ | refine S26 ?_ | refine S27 ?_ | refine S28 ?_ | refine S29 ?_ | refine S32 ?_ | refine S33 ?_ | refine S36 ?_ | refine S37 ?_ | refine S38 ?_ | refine S40 ?_ | refine S41 ?_ | refine S46 ?_ | refine S51 ?_ | refine S56 ?_ | refine S65 ?_ | refine S68 ?_ | refine S71 ?_ | refine S73 ?_ | refine S76 ?_)
  refine CW.midS (fun _ : Unit => True) (fun _ => [(0, plls m), (1, pint k), (2, pint q), (5, .lptr [pint q]), (7, pint ((many + (if badV m k q v then 0 else 1) : Nat) : Int)), (8, .ptr tb 0)]) (fun _ h => HV tb tv v h) ?_ ?_
  · cases hb : badV m k q v with
    | false =>
      repeat (first | refine S0 ?_ | refine S1 ?_ | refine S2 ?_ | refine S3 ?_ | refine S4 ?_ | refine S5 ?_ | refine S6 ?_ | refine S7 ?_ | refine S8 ?_ | refine S9 ?_ | refine S10 ?_ | refine S11 ?_ | refine S12 ?_ | refine S13 ?_ | refine S15 ?_ | refine S16 ?_ | refine S19 ?_ | refine S20 ?_ | refine S21 ?_ | refine S22 ?_ | refine S23 ?_ | refine S25 ?_ | refine S26 ?_ | refine S27 ?_ | refine S28 ?_ | refine S29 ?_ | refine S32 ?_ | refine S33 ?_ | refine S36 ?_ | refine S37 ?_ | refine S38 ?_ | refine S40 ?_ | refine S41 ?_ | refine S46 ?_ | refine S51 ?_ | refine S56 ?_ | refine S65 ?_ | refine S68 ?_ | refine S71 ?_ | refine S73 ?_ | refine S76 ?_)
      exact ⟨(), trivial, by simp only [Bool.false_eq_true, ↓reduceIte]; exact SLx, H'⟩
    | true =>
      repeat (first | refine S0 ?_ | refine S1 ?_ | refine S2 ?_ | refine S3 ?_ | refine S4 ?_ | refine S5 ?_ | refine S6 ?_ | refine S7 ?_ | refine S8 ?_ | refine S9 ?_ | refine S10 ?_ | refine S11 ?_ | refine S12 ?_ | refine S13 ?_ | refine S15 ?_ | refine S16 ?_ | refine S19 ?_ | refine S20 ?_ | refine S21 ?_ | refine S22 ?_ | refine S23 ?_ | refine S25 ?_ | refine S26 ?_ | refine S27 ?_ | refine S28 ?_ | refine S29 ?_ | refine S32 ?_ | refine S33 ?_ | refine S36 ?_ | refine S37 ?_ | refine S38 ?_ | refine S40 ?_ | refine S41 ?_ | refine S46 ?_ | refine S51 ?_ | refine S56 ?_ | refine S65 ?_ | refine S68 ?_ | refine S71 ?_ | refine S73 ?_ | refine S76 ?_)
      exact ⟨(), trivial, by simp only [↓reduceIte, Nat.add_zero]; exact SLx, H'⟩
  clear kc H H' hf hp t h' hQ
  rintro _ t hp _ H
  rw [← hcnt]
  first | simp only [updS] | simp only [updL, Nat.reduceAdd]
  repeat (first | refine S0 ?_ | refine S1 ?_ | refine S2 ?_ | refine S3 ?_ | refine S4 ?_ | refine S5 ?_ | refine S6 ?_ | refine S7 ?_ | refine S8 ?_ | refine S9 ?_ | refine S10 ?_ | refine S11 ?_ | refine S12 ?_ | refine S13 ?_ | refine S15 ?_ | refine S16 ?_ | refine S19 ?_ | refine S20 ?_ | refine S21 ?_ | refine S22 ?_ | refine S23 ?_ | refine S25 ?_ | refine S26 ?_ | refine S27 ?_ | refine S28 ?_ | refine S29 ?_ | refine S32 ?_ | refine S33 ?_ | refine S36 ?_ | refine S37 ?_ | refine S38 ?_ | refine S40 ?_ | refine S41 ?_ | refine S46 ?_ | refine S51 ?_ | refine S56 ?_ | refine S65 ?_ | refine S68 ?_ | refine S71 ?_ | refine S73 ?_ | refine S76 ?_)
  refine CW.loopS (fun i : Nat => i ≤ k ∧ ∀ j, j < i → v.getD j 0 + 1 = q) (fun i => [(0, plls m), (1, pint k), (2, pint q), (5, .lptr [pint q]), (7, pint (((List.range (e + 1)).filter fun t => !badV m k q (dig q k t)).length : Nat)), (8, .ptr tb 0), (9, pint i)]) (fun i h => HV tb tv (curV v i) h) (fun i => k - i) 0
    ⟨⟨Nat.zero_le _, fun j hj => by omega⟩, SLx, by rw [curV_zero]; exact H⟩ ?_
  clear H hp t
  rintro i t hp ⟨hi, hcar⟩ H
  have hcl : (curV v i).length = k := by rw [curV_len (by omega)]; exact hvl
  obtain ⟨b1, b2, b3, b4⟩ := H
  rw [hcl] at b1
  have hnl : (nvi (curV v i)).length = k := by rw [nvi_len]; exact hcl
  first | simp only [updS] | simp only [updL, Nat.reduceAdd]
  by_cases hi2 : i < k
  · have hgv : (nvi (curV v i)).getD i 0 = ((v.getD i 0 : Nat) : Int) := by rw [nvi_get, curV_get]
    have hvi := hvd i hi2
    by_cases hq1 : v.getD i 0 + 1 = q
    · have hset := curV_set (v := v) (i := i) (by omega)
      have hcl1 : (curV v (i + 1)).length = k := by rw [curV_len (by omega)]; exact hvl
      repeat (first | refine S0 ?_ | refine S1 ?_ | refine S2 ?_ | refine S3 ?_ | refine S4 ?_ | refine S5 ?_ | refine S6 ?_ | refine S7 ?_ | refine S8 ?_ | refine S9 ?_ | refine S10 ?_ | refine S11 ?_ | refine S12 ?_ | refine S13 ?_ | refine S15 ?_ | refine S16 ?_ | refine S19 ?_ | refine S20 ?_ | refine S21 ?_ | refine S22 ?_ | refine S23 ?_ | refine S25 ?_ | refine S26 ?_ | refine S27 ?_ | refine S28 ?_ | refine S29 ?_ | refine S32 ?_ | refine S33 ?_ | refine S36 ?_ | refine S37 ?_ | refine S38 ?_ | refine S40 ?_ | refine S41 ?_ | refine S46 ?_ | refine S51 ?_ | refine S56 ?_ | refine S65 ?_ | refine S68 ?_ | refine S71 ?_ | refine S73 ?_ | refine S76 ?_)
      rw [hgv]
      repeat (first | refine S0 ?_ | refine S1 ?_ | refine S2 ?_ | refine S3 ?_ | refine S4 ?_ | refine S5 ?_ | refine S6 ?_ | refine S7 ?_ | refine S8 ?_ | refine S9 ?_ | refine S10 ?_ | refine S11 ?_ | refine S12 ?_ | refine S13 ?_ | refine S15 ?_ | refine S16 ?_ | refine S19 ?_ | refine S20 ?_ | refine S21 ?_ | refine S22 ?_ | refine S23 ?_ | refine S25 ?_ | refine S26 ?_ | refine S27 ?_ | refine S28 ?_ | refine S29 ?_ | refine S32 ?_ | refine S33 ?_ | refine S36 ?_ | refine S37 ?_ | refine S38 ?_ | refine S40 ?_ | refine S41 ?_ | refine S46 ?_ | refine S51 ?_ | refine S56 ?_ | refine S65 ?_ | refine S68 ?_ | refine S71 ?_ | refine S73 ?_ | refine S76 ?_)
      refine ⟨i + 1, ⟨hi2, fun j hj => ?_⟩, SLx, ⟨?_, ?_, b3, b4⟩, by omega⟩
      · rcases Nat.lt_or_ge j i with h | h
        · exact hcar j h
        · obtain rfl : j = i := by omega
          exact hq1
      · rw [hcl1]
        refine (HP.set_other _ _ (by omega)).trans b1
      · rw [hset]
        exact HP.set_same _ _ _
    · repeat (first | refine S0 ?_ | refine S1 ?_ | refine S2 ?_ | refine S3 ?_ | refine S4 ?_ | refine S5 ?_ | refine S6 ?_ | refine S7 ?_ | refine S8 ?_ | refine S9 ?_ | refine S10 ?_ | refine S11 ?_ | refine S12 ?_ | refine S13 ?_ | refine S15 ?_ | refine S16 ?_ | refine S19 ?_ | refine S20 ?_ | refine S21 ?_ | refine S22 ?_ | refine S23 ?_ | refine S25 ?_ | refine S26 ?_ | refine S27 ?_ | refine S28 ?_ | refine S29 ?_ | refine S32 ?_ | refine S33 ?_ | refine S36 ?_ | refine S37 ?_ | refine S38 ?_ | refine S40 ?_ | refine S41 ?_ | refine S46 ?_ | refine S51 ?_ | refine S56 ?_ | refine S65 ?_ | refine S68 ?_ | refine S71 ?_ | refine S73 ?_ | refine S76 ?_)
      rw [hgv]
      repeat (first | refine S0 ?_ | refine S1 ?_ | refine S2 ?_ | refine S3 ?_ | refine S4 ?_ | refine S5 ?_ | refine S6 ?_ | refine S7 ?_ | refine S8 ?_ | refine S9 ?_ | refine S10 ?_ | refine S11 ?_ | refine S12 ?_ | refine S13 ?_ | refine S15 ?_ | refine S16 ?_ | refine S19 ?_ | refine S20 ?_ | refine S21 ?_ | refine S22 ?_ | refine S23 ?_ | refine S25 ?_ | refine S26 ?_ | refine S27 ?_ | refine S28 ?_ | refine S29 ?_ | refine S32 ?_ | refine S33 ?_ | refine S36 ?_ | refine S37 ?_ | refine S38 ?_ | refine S40 ?_ | refine S41 ?_ | refine S46 ?_ | refine S51 ?_ | refine S56 ?_ | refine S65 ?_ | refine S68 ?_ | refine S71 ?_ | refine S73 ?_ | refine S76 ?_)
      have hl2 := hlast i hi2 hq1
      have hset := curV_inc (v := v) (i := i) (q := q) hcar (by omega) hq1
      rw [hset, hi1 hl2]
      refine ⟨(e + 1, tb, tv), ⟨hl2, ho, hev⟩, SLx, ⟨?_, ?_, b3, b4⟩, by simp only; omega⟩
      · rw [dig_len]
        refine (HP.set_other _ _ (by first | (show tb ≠ tv; omega) | (show tv ≠ tb; omega))).trans b1
      · exact HP.set_same _ _ _
  · obtain rfl : i = k := by omega
    repeat (first | refine S0 ?_ | refine S1 ?_ | refine S2 ?_ | refine S3 ?_ | refine S4 ?_ | refine S5 ?_ | refine S6 ?_ | refine S7 ?_ | refine S8 ?_ | refine S9 ?_ | refine S10 ?_ | refine S11 ?_ | refine S12 ?_ | refine S13 ?_ | refine S15 ?_ | refine S16 ?_ | refine S19 ?_ | refine S20 ?_ | refine S21 ?_ | refine S22 ?_ | refine S23 ?_ | refine S25 ?_ | refine S26 ?_ | refine S27 ?_ | refine S28 ?_ | refine S29 ?_ | refine S32 ?_ | refine S33 ?_ | refine S36 ?_ | refine S37 ?_ | refine S38 ?_ | refine S40 ?_ | refine S41 ?_ | refine S46 ?_ | refine S51 ?_ | refine S56 ?_ | refine S65 ?_ | refine S68 ?_ | refine S71 ?_ | refine S73 ?_ | refine S76 ?_)
    rw [hfull hcar]
    exact ⟨.inr rfl, .cl rfl⟩
end Go.Proofs.Yteecmiagfjjefaa
