/- (*garside.form).settle: all pairs become tight; half twists at the beginning and identities at the end are taken away. No condition of its own. -/
import Derived.Test.YtgjfpmjllpgadaaGGarsideEqualsBJ
import Derived.Test.YtgjfpmjllpgadaaGGarsideEqualsBD
set_option linter.unusedVariables false
set_option linter.unusedSimpArgs false
namespace Go.Proofs.Ytgjfpmjllpgadaa
open Go.RowKit

/-- the first factors that are no identity, from s on -/
theorem ones_split {n m : Nat} {G : Fam} (h : allT n m G) (hP : ∀ i, i < m → IsP (G i) n) {s : Nat} (hs : s ≤ m) : ∃ c, s ≤ c ∧ c ≤ m ∧ (∀ i, s ≤ i → i < c → ¬ isOne n (G i)) ∧ (∀ i, c ≤ i → i < m → isOne n (G i)) := by
  by_cases hex : ∃ i, s ≤ i ∧ i < m ∧ isOne n (G i)
  · obtain ⟨c, ⟨h1, h2, h3⟩, hmin⟩ := exists_least (fun i => s ≤ i ∧ i < m ∧ isOne n (G i)) hex
    refine ⟨c, h1, by omega, fun i hi hic ho => ?_, fun i hi him => ?_⟩
    · have := hmin i ⟨hi, by omega, ho⟩
      omega
    · have := one_last h hP (i - c) c (by omega) h3
      rwa [show c + (i - c) = i by omega] at this
  · exact ⟨m, hs, Nat.le_refl _, fun i hi him ho => hex ⟨i, hi, him, ho⟩, fun i hi him => by omega⟩
theorem pow152 {n m : Nat} {G : Fam} (hn : n ≤ 6) (hP : ∀ i, i < m → IsP (G i) n) : pot n m G < 152 ^ m := by have := pot_bd hn hP; omega
set_option maxHeartbeats 32000000 in
set_option maxRecDepth 100000 in
theorem settle_e {n m T off tf : Nat} {k : Int} {tk : Nat → Nat} {G0 : Fam} (hn : 2 ≤ n ∧ n ≤ 6) (hm : m ≤ 1000) (hk : -1000 ≤ k ∧ k ≤ 1000) (h0 : ∀ i, i < m → IsP (G0 i) n) (h : HP) (hv : h.blk tf = some [pint n, pint k, .ref T off 1 m]) (hF : Fac n m T off tk G0 h) (ho : tf % 2 = 1) (hlt : tf < 2 * h.next) :
    SChE Try.prog 148 [.ptr tf 0] h (fun _ h' => ∃ k' m' G' T' off' tk', Stl n k m G0 k' m' G' ∧ h'.blk tf = some [pint n, pint k', .ref T' off' 1 m'] ∧ Fac n m' T' off' tk' G' h' ∧ tf < 2 * h'.next) := by
  have hn6 := hn.2
  refine SChE.go { wc := [4], rb := [39, 44], pc := [40, 45] } tok mixed Try.func148 rfl rfl Try.ntmps148 rfl rfl (by kernel_rfl) (fun hw => ?_)
  first | simp only [updS] | simp only [updL, Nat.reduceAdd]
  repeat (first | refine S0 ?_ | refine S1 ?_ | refine S2 ?_ | refine S3 ?_ | refine S4 ?_ | refine S5 ?_ | refine S6 ?_ | refine S8 ?_ | refine S10 ?_ | refine S11 ?_ | refine S13 ?_ | refine S15 ?_ | refine S16 ?_ | refine S19 ?_ | refine S20 ?_ | refine S22 ?_ | refine S24 ?_ | refine S27 ?_ | refine S30 ?_ | refine S33 ?_ | refine S37 ?_ | refine S38 ?_ | refine S40 ?_ | refine S41 ?_ | refine S45 ?_ | refine S46 ?_ | refine S56 ?_ | refine S65 ?_ | refine S67 ?_)
  refine CW.loopS (fun i : Fam × Bool => LM n m G0 i.1 ∧ (i.2 = false → allT n m i.1)) (fun i => [(0, .ptr tf 0), (2, .sc (.bool i.2))]) (fun i hp => hp.blk tf = some [pint n, pint k, .ref T off 1 m] ∧ Fac n m T off tk i.1 hp ∧ tf < 2 * hp.next) (fun i => if i.2 then 152 ^ m - pot n m i.1 else 0) (G0, true) ⟨⟨.refl, (fun e => by cases e)⟩, SLx, hv, hF, hlt⟩ ?_
  rintro ⟨G, more⟩ t hp ⟨hL, hall⟩ ⟨bv, bF, bl⟩
  simp only at hL hall bF
  have hP := hL.isP h0
  first | simp only [updS] | simp only [updL, Nat.reduceAdd]
  cases more with
  | true =>
    clear hall
    repeat (first | refine S0 ?_ | refine S1 ?_ | refine S2 ?_ | refine S3 ?_ | refine S4 ?_ | refine S5 ?_ | refine S6 ?_ | refine S8 ?_ | refine S10 ?_ | refine S11 ?_ | refine S13 ?_ | refine S15 ?_ | refine S16 ?_ | refine S19 ?_ | refine S20 ?_ | refine S22 ?_ | refine S24 ?_ | refine S27 ?_ | refine S30 ?_ | refine S33 ?_ | refine S37 ?_ | refine S38 ?_ | refine S40 ?_ | refine S41 ?_ | refine S45 ?_ | refine S46 ?_ | refine S56 ?_ | refine S65 ?_ | refine S67 ?_)
    refine CW.loopS (fun i : Fam × Bool × Int => LM n m G i.1 ∧ -1 ≤ i.2.2 ∧ i.2.2 < m ∧ (i.2.1 = true → pot n m G < pot n m i.1) ∧ (i.2.1 = false → i.1 = G ∧ ∀ q : Nat, i.2.2 ≤ q → q + 1 < m → tgF n (G q) (G (q + 1)))) (fun i => [(0, .ptr tf 0), (2, .sc (.bool i.2.1)), (3, pint i.2.2)]) (fun i hp => hp.blk tf = some [pint n, pint k, .ref T off 1 m] ∧ Fac n m T off tk i.1 hp ∧ tf < 2 * hp.next) (fun i => (i.2.2).toNat) (G, false, (m : Int) - 1) ⟨⟨.refl, by simp only; omega, by simp only; omega, (fun e => by cases e), (fun _ => ⟨rfl, fun q hq hq2 => by simp only at hq; omega⟩)⟩, SLx, bv, bF, bl⟩ ?_
    clear bv bF bl hp t
    rintro ⟨G', mo, j⟩ t hp ⟨hL2, hj1, hj2, ht1, ht2⟩ ⟨bv, bF, bl⟩
    simp only at hL2 hj1 hj2 ht1 ht2 bF
    have hP2 := hL2.isP hP
    first | simp only [updS] | simp only [updL, Nat.reduceAdd]
    by_cases hj : 0 < j
    · obtain ⟨i, rfl⟩ : ∃ i : Nat, j = (i : Int) + 1 := ⟨(j - 1).toNat, by omega⟩
      have him : i + 1 < m := by omega
      obtain ⟨cs, c1, c2, c3⟩ := bF.cs
      have hev := bF.evT
      have kt := tighten_e hn (hP2 i (by omega)) (hP2 (i + 1) him) (bF.ev i (by omega)) (bF.ev (i + 1) him) (fun e => by have := bF.inj i (i + 1) (by omega) him e; omega) hp (bF.row i (by omega)) (bF.row (i + 1) him)
      iterate 12 (first | refine S0 ?_ | refine S1 ?_ | refine S2 ?_ | refine S3 ?_ | refine S4 ?_ | refine S5 ?_ | refine S6 ?_ | refine S8 ?_ | refine S10 ?_ | refine S11 ?_ | refine S13 ?_ | refine S15 ?_ | refine S16 ?_ | refine S19 ?_ | refine S20 ?_ | refine S22 ?_ | refine S24 ?_ | refine S27 ?_ | refine S30 ?_ | refine S33 ?_ | refine S37 ?_ | refine S38 ?_ | refine S40 ?_ | refine S41 ?_ | refine S45 ?_ | refine S46 ?_ | refine S56 ?_ | refine S65 ?_ | refine S67 ?_)
      refine CW.regionDM 15 (by kernel_rfl) (by rfl) (by rfl) (by intro _ h; cases h) ?_
      repeat (first | refine S0 ?_ | refine S1 ?_ | refine S2 ?_ | refine S3 ?_ | refine S4 ?_ | refine S5 ?_ | refine S6 ?_ | refine S8 ?_ | refine S10 ?_ | refine S11 ?_ | refine S13 ?_ | refine S15 ?_ | refine S16 ?_ | refine S19 ?_ | refine S20 ?_ | refine S22 ?_ | refine S24 ?_ | refine S27 ?_ | refine S30 ?_ | refine S33 ?_ | refine S37 ?_ | refine S38 ?_ | refine S40 ?_ | refine S41 ?_ | refine S45 ?_ | refine S46 ?_ | refine S56 ?_ | refine S65 ?_ | refine S67 ?_)
      rw [show off + ((i : Int) + 1 - 1).toNat * 1 = off + i by omega]
      refine AW.ldm EVx (by first | exact Or.inl rfl | exact Or.inr ⟨rfl, HP.tok_even _⟩ | exact Or.inr (Or.inl ⟨rfl, HP.tok_even _⟩) | exact Or.inr (Or.inr ⟨rfl, HP.tok_odd _⟩) | exact Or.inr (Or.inl rfl) | exact Or.inr (Or.inr (Or.inl rfl)) | exact Or.inr (Or.inr (Or.inr (Or.inl ⟨rfl, HP.tok_odd _⟩))) | exact Or.inr (Or.inr (Or.inr (Or.inr ⟨rfl, HP.tok_even _⟩))) | exact Or.inr (Or.inr (Or.inr (Or.inr ⟨rfl, by assumption⟩))) | exact Or.inr ⟨rfl, by assumption⟩ | exact Or.inr (Or.inl ⟨rfl, by assumption⟩) | exact Or.inr (Or.inr ⟨rfl, by assumption⟩) | exact Or.inr (Or.inr (Or.inr (Or.inl ⟨rfl, by assumption⟩))) | exact Or.inr (Or.inr (Or.inl ⟨rfl, HP.tok_odd _⟩)) | exact Or.inr (Or.inr (Or.inl ⟨rfl, by assumption⟩)) | exact Or.inr (Or.inr (Or.inr rfl)) | exact Or.inr (Or.inr rfl) | exact Or.inr rfl) rfl c1 (c3 i (by omega)) ?_
      repeat (first | refine S0 ?_ | refine S1 ?_ | refine S2 ?_ | refine S3 ?_ | refine S4 ?_ | refine S5 ?_ | refine S6 ?_ | refine S8 ?_ | refine S10 ?_ | refine S11 ?_ | refine S13 ?_ | refine S15 ?_ | refine S16 ?_ | refine S19 ?_ | refine S20 ?_ | refine S22 ?_ | refine S24 ?_ | refine S27 ?_ | refine S30 ?_ | refine S33 ?_ | refine S37 ?_ | refine S38 ?_ | refine S40 ?_ | refine S41 ?_ | refine S45 ?_ | refine S46 ?_ | refine S56 ?_ | refine S65 ?_ | refine S67 ?_)
      rw [show off + ((i : Int) + 1).toNat * 1 = off + (i + 1) by omega]
      refine AW.ldm EVx (by first | exact Or.inl rfl | exact Or.inr ⟨rfl, HP.tok_even _⟩ | exact Or.inr (Or.inl ⟨rfl, HP.tok_even _⟩) | exact Or.inr (Or.inr ⟨rfl, HP.tok_odd _⟩) | exact Or.inr (Or.inl rfl) | exact Or.inr (Or.inr (Or.inl rfl)) | exact Or.inr (Or.inr (Or.inr (Or.inl ⟨rfl, HP.tok_odd _⟩))) | exact Or.inr (Or.inr (Or.inr (Or.inr ⟨rfl, HP.tok_even _⟩))) | exact Or.inr (Or.inr (Or.inr (Or.inr ⟨rfl, by assumption⟩))) | exact Or.inr ⟨rfl, by assumption⟩ | exact Or.inr (Or.inl ⟨rfl, by assumption⟩) | exact Or.inr (Or.inr ⟨rfl, by assumption⟩) | exact Or.inr (Or.inr (Or.inr (Or.inl ⟨rfl, by assumption⟩))) | exact Or.inr (Or.inr (Or.inl ⟨rfl, HP.tok_odd _⟩)) | exact Or.inr (Or.inr (Or.inl ⟨rfl, by assumption⟩)) | exact Or.inr (Or.inr (Or.inr rfl)) | exact Or.inr (Or.inr rfl) | exact Or.inr rfl) rfl c1 (c3 (i + 1) him) ?_
      repeat (first | refine S0 ?_ | refine S1 ?_ | refine S2 ?_ | refine S3 ?_ | refine S4 ?_ | refine S5 ?_ | refine S6 ?_ | refine S8 ?_ | refine S10 ?_ | refine S11 ?_ | refine S13 ?_ | refine S15 ?_ | refine S16 ?_ | refine S19 ?_ | refine S20 ?_ | refine S22 ?_ | refine S24 ?_ | refine S27 ?_ | refine S30 ?_ | refine S33 ?_ | refine S37 ?_ | refine S38 ?_ | refine S40 ?_ | refine S41 ?_ | refine S45 ?_ | refine S46 ?_ | refine S56 ?_ | refine S65 ?_ | refine S67 ?_)
      refine LW.ope (d := 32) rfl (by omega) (fun _ => OpE.call rfl (kt.mono ?_))
      rintro r h' ⟨a', b', mv, rfl, hTM, htg, hb1, hb2, hfr⟩
      have bF' := bF.two him hfr hb1 hb2
      have htf : ∀ x, x < m → tf ≠ tk x := fun x hx e => by have := bF.ev x hx; omega
      have bv' : h'.blk tf = some [pint n, pint k, .ref T off 1 m] := by
        rw [hfr.blk _ bl ?_]
        · exact bv
        · simp only [List.mem_cons, List.not_mem_nil, or_false]
          intro hh
          rcases hh with e | e
          · exact htf i (by omega) e
          · exact htf (i + 1) him e
      have bl' : tf < 2 * h'.next := by have := hfr.next; omega
      have hL3 := hL2.trans (hTM.lm him)
      cases mv with
      | true =>
        have hpt := hTM.pot hn6 him hP2
        have hpt2 := hL2.pot hn6 hP
        repeat (first | refine S0 ?_ | refine S1 ?_ | refine S2 ?_ | refine S3 ?_ | refine S4 ?_ | refine S5 ?_ | refine S6 ?_ | refine S8 ?_ | refine S10 ?_ | refine S11 ?_ | refine S13 ?_ | refine S15 ?_ | refine S16 ?_ | refine S19 ?_ | refine S20 ?_ | refine S22 ?_ | refine S24 ?_ | refine S27 ?_ | refine S30 ?_ | refine S33 ?_ | refine S37 ?_ | refine S38 ?_ | refine S40 ?_ | refine S41 ?_ | refine S45 ?_ | refine S46 ?_ | refine S56 ?_ | refine S65 ?_ | refine S67 ?_)
        refine ⟨(ovr (ovr G' i a') (i + 1) b', true, (i : Int)), ⟨hL3, by simp only; omega, by simp only; omega, (fun _ => by simp only; omega), (fun e => by cases e)⟩, ?_, ⟨bv', bF', bl'⟩, by simp only; omega⟩
        simp only
        rw [show (i : Int) + 1 - 1 = (i : Int) by omega]
        exact SLx
      | false =>
        obtain ⟨rfl, rfl⟩ := hTM.stay
        rw [ovr_self] at hL3 bF'
        repeat (first | refine S0 ?_ | refine S1 ?_ | refine S2 ?_ | refine S3 ?_ | refine S4 ?_ | refine S5 ?_ | refine S6 ?_ | refine S8 ?_ | refine S10 ?_ | refine S11 ?_ | refine S13 ?_ | refine S15 ?_ | refine S16 ?_ | refine S19 ?_ | refine S20 ?_ | refine S22 ?_ | refine S24 ?_ | refine S27 ?_ | refine S30 ?_ | refine S33 ?_ | refine S37 ?_ | refine S38 ?_ | refine S40 ?_ | refine S41 ?_ | refine S45 ?_ | refine S46 ?_ | refine S56 ?_ | refine S65 ?_ | refine S67 ?_)
        refine ⟨(G', mo, (i : Int)), ⟨hL3, by simp only; omega, by simp only; omega, ht1, (fun e => ?_)⟩, ?_, ⟨bv', bF', bl'⟩, by simp only; omega⟩
        · obtain ⟨e1, e2⟩ := ht2 e
          refine ⟨e1, fun q hq hq2 => ?_⟩
          by_cases e3 : q = i
          · rw [e3, ← e1]; exact htg
          · exact e2 q (by simp only at hq; omega) hq2
        · simp only
          rw [show (i : Int) + 1 - 1 = (i : Int) by omega]
          exact SLx
    · have hb := pow152 hn6 hP
      have hb2 := pow152 hn6 hP2
      repeat (first | refine S0 ?_ | refine S1 ?_ | refine S2 ?_ | refine S3 ?_ | refine S4 ?_ | refine S5 ?_ | refine S6 ?_ | refine S8 ?_ | refine S10 ?_ | refine S11 ?_ | refine S13 ?_ | refine S15 ?_ | refine S16 ?_ | refine S19 ?_ | refine S20 ?_ | refine S22 ?_ | refine S24 ?_ | refine S27 ?_ | refine S30 ?_ | refine S33 ?_ | refine S37 ?_ | refine S38 ?_ | refine S40 ?_ | refine S41 ?_ | refine S45 ?_ | refine S46 ?_ | refine S56 ?_ | refine S65 ?_ | refine S67 ?_)
      refine ⟨(G', mo), ⟨hL.trans hL2, fun e => ?_⟩, SLx, ⟨bv, bF, bl⟩, ?_⟩
      · obtain ⟨e1, e2⟩ := ht2 e
        intro q hq
        simp only
        rw [e1]
        exact e2 q (by omega) hq
      · simp only
        cases mo with
        | true =>
          have := ht1 rfl
          simp only [if_true]; omega
        | false => simp only [if_true, Bool.false_eq_true, if_false]; omega
  | false =>
    have hT := hall rfl
    clear hall
    have ki := identity_s n (by omega)
    have kh := half_s hn
    repeat (first | refine S0 ?_ | refine S1 ?_ | refine S2 ?_ | refine S3 ?_ | refine S4 ?_ | refine S5 ?_ | refine S6 ?_ | refine S8 ?_ | refine S10 ?_ | refine S11 ?_ | refine S13 ?_ | refine S15 ?_ | refine S16 ?_ | refine S19 ?_ | refine S20 ?_ | refine S22 ?_ | refine S24 ?_ | refine S27 ?_ | refine S30 ?_ | refine S33 ?_ | refine S37 ?_ | refine S38 ?_ | refine S40 ?_ | refine S41 ?_ | refine S45 ?_ | refine S46 ?_ | refine S56 ?_ | refine S65 ?_ | refine S67 ?_)
    refine Scall (args := [pint n]) ki ?_
    repeat (first | refine S0 ?_ | refine S1 ?_ | refine S2 ?_ | refine S3 ?_ | refine S4 ?_ | refine S5 ?_ | refine S6 ?_ | refine S8 ?_ | refine S10 ?_ | refine S11 ?_ | refine S13 ?_ | refine S15 ?_ | refine S16 ?_ | refine S19 ?_ | refine S20 ?_ | refine S22 ?_ | refine S24 ?_ | refine S27 ?_ | refine S30 ?_ | refine S33 ?_ | refine S37 ?_ | refine S38 ?_ | refine S40 ?_ | refine S41 ?_ | refine S45 ?_ | refine S46 ?_ | refine S56 ?_ | refine S65 ?_ | refine S67 ?_)
    refine Scall (args := [pint n]) kh ?_
    repeat (first | refine S0 ?_ | refine S1 ?_ | refine S2 ?_ | refine S3 ?_ | refine S4 ?_ | refine S5 ?_ | refine S6 ?_ | refine S8 ?_ | refine S10 ?_ | refine S11 ?_ | refine S13 ?_ | refine S15 ?_ | refine S16 ?_ | refine S19 ?_ | refine S20 ?_ | refine S22 ?_ | refine S24 ?_ | refine S27 ?_ | refine S30 ?_ | refine S33 ?_ | refine S37 ?_ | refine S38 ?_ | refine S40 ?_ | refine S41 ?_ | refine S45 ?_ | refine S46 ?_ | refine S56 ?_ | refine S65 ?_ | refine S67 ?_)
    refine AW.alloS rfl rfl (cs := [.lst true 0 0 []]) (by simp only [List.map_cons, List.map_nil, ofConst.ofCell]; first | done | rfl) ?_
    repeat (first | refine S0 ?_ | refine S1 ?_ | refine S2 ?_ | refine S3 ?_ | refine S4 ?_ | refine S5 ?_ | refine S6 ?_ | refine S8 ?_ | refine S10 ?_ | refine S11 ?_ | refine S13 ?_ | refine S15 ?_ | refine S16 ?_ | refine S19 ?_ | refine S20 ?_ | refine S22 ?_ | refine S24 ?_ | refine S27 ?_ | refine S30 ?_ | refine S33 ?_ | refine S37 ?_ | refine S38 ?_ | refine S40 ?_ | refine S41 ?_ | refine S45 ?_ | refine S46 ?_ | refine S56 ?_ | refine S65 ?_ | refine S67 ?_)
    refine CW.freezeP 4 (cs := [pli (tabN n id)]) rfl (HP.set_same _ _ _) ?_
    have fr : Fr [] hp (((hp.add false [.lst true 0 0 []]).set (hp.tok false) [pli (tabN n id)]).kill (hp.tok false)) := (((Fr.refl [] hp).add false _).set _ (.inr (HP.tok_ge hp false).1)).kill (.inr (HP.tok_ge hp false).1)
    generalize ((hp.add false [.lst true 0 0 []]).set (hp.tok false) [pli (tabN n id)]).kill (hp.tok false) = X at *
    have xv : X.blk tf = some [pint n, pint k, .ref T off 1 m] := by rw [fr.blk _ bl (by simp)]; exact bv
    have xF := bF.fr fr (by simp) (by simp)
    have xl : tf < 2 * X.next := by have := fr.next; omega
    clear bv bF bl fr
    refine CW.loopS (fun s : Nat => s ≤ m ∧ ∀ i, i < s → isTw n (G i)) (fun _ => [(0, .ptr tf 0), (4, .lptr [pli (tabN n id)]), (5, pli (rvT n))]) (fun s hp => hp.blk tf = some [pint n, pint (k + s), .ref T (off + s) 1 (m - s)] ∧ Fac n m T off tk G hp ∧ tf < 2 * hp.next) (fun s => m - s) 0 ⟨⟨Nat.zero_le _, fun i hi => absurd hi (Nat.not_lt_zero _)⟩, SLx, by simpa using xv, xF, xl⟩ ?_
    clear xv xF xl X hp t
    rintro s t hp ⟨hs, hst⟩ ⟨bv, bF, bl⟩
    first | simp only [updS] | simp only [updL, Nat.reduceAdd]
    obtain ⟨cs, c1, c2, c3⟩ := bF.cs
    have hev := bF.evT
    by_cases hsm : s < m
    · have hrow := bF.row s hsm
      have kq := equal_s (tabN n (G s)) (rvT n)
      repeat (first | refine S0 ?_ | refine S1 ?_ | refine S2 ?_ | refine S3 ?_ | refine S4 ?_ | refine S5 ?_ | refine S6 ?_ | refine S8 ?_ | refine S10 ?_ | refine S11 ?_ | refine S13 ?_ | refine S15 ?_ | refine S16 ?_ | refine S19 ?_ | refine S20 ?_ | refine S22 ?_ | refine S24 ?_ | refine S27 ?_ | refine S30 ?_ | refine S33 ?_ | refine S37 ?_ | refine S38 ?_ | refine S40 ?_ | refine S41 ?_ | refine S45 ?_ | refine S46 ?_ | refine S56 ?_ | refine S65 ?_ | refine S67 ?_)
      rw [show off + s + Int.toNat 0 * 1 = off + s by simp]
      refine AW.ldm EVx (by first | exact Or.inl rfl | exact Or.inr ⟨rfl, HP.tok_even _⟩ | exact Or.inr (Or.inl ⟨rfl, HP.tok_even _⟩) | exact Or.inr (Or.inr ⟨rfl, HP.tok_odd _⟩) | exact Or.inr (Or.inl rfl) | exact Or.inr (Or.inr (Or.inl rfl)) | exact Or.inr (Or.inr (Or.inr (Or.inl ⟨rfl, HP.tok_odd _⟩))) | exact Or.inr (Or.inr (Or.inr (Or.inr ⟨rfl, HP.tok_even _⟩))) | exact Or.inr (Or.inr (Or.inr (Or.inr ⟨rfl, by assumption⟩))) | exact Or.inr ⟨rfl, by assumption⟩ | exact Or.inr (Or.inl ⟨rfl, by assumption⟩) | exact Or.inr (Or.inr ⟨rfl, by assumption⟩) | exact Or.inr (Or.inr (Or.inr (Or.inl ⟨rfl, by assumption⟩))) | exact Or.inr (Or.inr (Or.inl ⟨rfl, HP.tok_odd _⟩)) | exact Or.inr (Or.inr (Or.inl ⟨rfl, by assumption⟩)) | exact Or.inr (Or.inr (Or.inr rfl)) | exact Or.inr (Or.inr rfl) | exact Or.inr rfl) rfl c1 (c3 s hsm) ?_
      repeat (first | refine S0 ?_ | refine S1 ?_ | refine S2 ?_ | refine S3 ?_ | refine S4 ?_ | refine S5 ?_ | refine S6 ?_ | refine S8 ?_ | refine S10 ?_ | refine S11 ?_ | refine S13 ?_ | refine S15 ?_ | refine S16 ?_ | refine S19 ?_ | refine S20 ?_ | refine S22 ?_ | refine S24 ?_ | refine S27 ?_ | refine S30 ?_ | refine S33 ?_ | refine S37 ?_ | refine S38 ?_ | refine S40 ?_ | refine S41 ?_ | refine S45 ?_ | refine S46 ?_ | refine S56 ?_ | refine S65 ?_ | refine S67 ?_)
      refine Scallb (args := [pli (tabN n (G s)), pli (rvT n)]) kq ?_ (ha := by simp only [evA, upd, Nat.reduceEqDiff, ↓reduceIte, List.map_cons, List.map_nil]; rw [bwT hrow]; rfl)
      by_cases htw : isTw n (G s)
      · rw [show decide (tabN n (G s) = rvT n) = true from decide_eq_true (tab_tw.2 htw)]
        repeat (first | refine S0 ?_ | refine S1 ?_ | refine S2 ?_ | refine S3 ?_ | refine S4 ?_ | refine S5 ?_ | refine S6 ?_ | refine S8 ?_ | refine S10 ?_ | refine S11 ?_ | refine S13 ?_ | refine S15 ?_ | refine S16 ?_ | refine S19 ?_ | refine S20 ?_ | refine S22 ?_ | refine S24 ?_ | refine S27 ?_ | refine S30 ?_ | refine S33 ?_ | refine S37 ?_ | refine S38 ?_ | refine S40 ?_ | refine S41 ?_ | refine S45 ?_ | refine S46 ?_ | refine S56 ?_ | refine S65 ?_ | refine S67 ?_)
        refine AW.slrFr (q := 1) EVx rfl EVx rfl (by omega) ?_
        repeat (first | refine S0 ?_ | refine S1 ?_ | refine S2 ?_ | refine S3 ?_ | refine S4 ?_ | refine S5 ?_ | refine S6 ?_ | refine S8 ?_ | refine S10 ?_ | refine S11 ?_ | refine S13 ?_ | refine S15 ?_ | refine S16 ?_ | refine S19 ?_ | refine S20 ?_ | refine S22 ?_ | refine S24 ?_ | refine S27 ?_ | refine S30 ?_ | refine S33 ?_ | refine S37 ?_ | refine S38 ?_ | refine S40 ?_ | refine S41 ?_ | refine S45 ?_ | refine S46 ?_ | refine S56 ?_ | refine S65 ?_ | refine S67 ?_)
        refine ⟨s + 1, ⟨hsm, fun i hi => ?_⟩, SLx, ⟨(HP.set_same _ _ _).trans ?_, bF.fr (X := [tf]) (((Fr.refl [tf] hp).set _ (.inl (by simp))).set _ (.inl (by simp))) ?_ ?_, bl⟩, by omega⟩
        · by_cases e : i = s
          · rw [e]; exact htw
          · exact hst i (by omega)
        · rw [show k + ((s + 1 : Nat) : Int) = k + (s : Int) + 1 by omega, show off + (s + 1) = off + s + 1 by omega, show m - (s + 1) = m - s - 1 by omega]; rfl
        · simp only [List.mem_singleton]; omega
        · intro j hj
          simp only [List.mem_singleton]
          have := bF.ev j hj
          omega
      · rw [show decide (tabN n (G s) = rvT n) = false from decide_eq_false (fun e => htw (tab_tw.1 e))]
        repeat (first | refine S0 ?_ | refine S1 ?_ | refine S2 ?_ | refine S3 ?_ | refine S4 ?_ | refine S5 ?_ | refine S6 ?_ | refine S8 ?_ | refine S10 ?_ | refine S11 ?_ | refine S13 ?_ | refine S15 ?_ | refine S16 ?_ | refine S19 ?_ | refine S20 ?_ | refine S22 ?_ | refine S24 ?_ | refine S27 ?_ | refine S30 ?_ | refine S33 ?_ | refine S37 ?_ | refine S38 ?_ | refine S40 ?_ | refine S41 ?_ | refine S45 ?_ | refine S46 ?_ | refine S56 ?_ | refine S65 ?_ | refine S67 ?_)
        obtain ⟨c, hc1, hc2, hc3, hc4⟩ := ones_split hT hP hs
        have kd := delone_e (bF.from hs) (c := c - s) (by omega) (by omega) (fun j hj => hc3 (s + j) (by omega) (by omega)) (fun j hj hj2 => hc4 (s + j) (by omega) (by omega))
        refine Scalle (args := [.ref T (off + s) 1 (m - s), .clo 164 [.lptr [pli (tabN n id)]]]) kd ?_
        rintro r h' ⟨rfl, hF', hf'⟩
        have bv' : h'.blk tf = some [pint n, pint (k + s), .ref T (off + s) 1 (m - s)] := by rw [hf'.blk _ bl (by simp only [List.mem_singleton]; omega)]; exact bv
        have bl' : tf < 2 * h'.next := by have := hf'.next; omega
        repeat (first | refine S0 ?_ | refine S1 ?_ | refine S2 ?_ | refine S3 ?_ | refine S4 ?_ | refine S5 ?_ | refine S6 ?_ | refine S8 ?_ | refine S10 ?_ | refine S11 ?_ | refine S13 ?_ | refine S15 ?_ | refine S16 ?_ | refine S19 ?_ | refine S20 ?_ | refine S22 ?_ | refine S24 ?_ | refine S27 ?_ | refine S30 ?_ | refine S33 ?_ | refine S37 ?_ | refine S38 ?_ | refine S40 ?_ | refine S41 ?_ | refine S45 ?_ | refine S46 ?_ | refine S56 ?_ | refine S65 ?_ | refine S67 ?_)
        refine ⟨.inl rfl, _, rfl, k + s, c - s, fun i => G (s + i), T, off + s, _, ⟨G, s, c, hL, hT, hc1, hc2, hst, ?_, hc3, hc4, rfl, rfl, fun i _ => rfl⟩, (HP.set_same _ _ _).trans rfl, hF'.fr (X := [tf]) ((Fr.refl [tf] h').set _ (.inl (by simp))) ?_ ?_, bl'⟩
        · exact fun _ => htw
        · simp only [List.mem_singleton]; omega
        · intro j hj
          simp only [List.mem_singleton]
          have := hF'.ev j hj
          omega
    · have esm : s = m := by omega
      repeat (first | refine S0 ?_ | refine S1 ?_ | refine S2 ?_ | refine S3 ?_ | refine S4 ?_ | refine S5 ?_ | refine S6 ?_ | refine S8 ?_ | refine S10 ?_ | refine S11 ?_ | refine S13 ?_ | refine S15 ?_ | refine S16 ?_ | refine S19 ?_ | refine S20 ?_ | refine S22 ?_ | refine S24 ?_ | refine S27 ?_ | refine S30 ?_ | refine S33 ?_ | refine S37 ?_ | refine S38 ?_ | refine S40 ?_ | refine S41 ?_ | refine S45 ?_ | refine S46 ?_ | refine S56 ?_ | refine S65 ?_ | refine S67 ?_)
      obtain ⟨c, hc1, hc2, hc3, hc4⟩ := ones_split hT hP hs
      have kd := delone_e (bF.from hs) (c := c - s) (by omega) (by omega) (fun j hj => hc3 (s + j) (by omega) (by omega)) (fun j hj hj2 => hc4 (s + j) (by omega) (by omega))
      refine Scalle (args := [.ref T (off + s) 1 (m - s), .clo 164 [.lptr [pli (tabN n id)]]]) kd ?_
      rintro r h' ⟨rfl, hF', hf'⟩
      have bv' : h'.blk tf = some [pint n, pint (k + s), .ref T (off + s) 1 (m - s)] := by rw [hf'.blk _ bl (by simp only [List.mem_singleton]; omega)]; exact bv
      have bl' : tf < 2 * h'.next := by have := hf'.next; omega
      repeat (first | refine S0 ?_ | refine S1 ?_ | refine S2 ?_ | refine S3 ?_ | refine S4 ?_ | refine S5 ?_ | refine S6 ?_ | refine S8 ?_ | refine S10 ?_ | refine S11 ?_ | refine S13 ?_ | refine S15 ?_ | refine S16 ?_ | refine S19 ?_ | refine S20 ?_ | refine S22 ?_ | refine S24 ?_ | refine S27 ?_ | refine S30 ?_ | refine S33 ?_ | refine S37 ?_ | refine S38 ?_ | refine S40 ?_ | refine S41 ?_ | refine S45 ?_ | refine S46 ?_ | refine S56 ?_ | refine S65 ?_ | refine S67 ?_)
      refine ⟨.inl rfl, _, rfl, k + s, c - s, fun i => G (s + i), T, off + s, _, ⟨G, s, c, hL, hT, hc1, hc2, hst, ?_, hc3, hc4, rfl, rfl, fun i _ => rfl⟩, (HP.set_same _ _ _).trans rfl, hF'.fr (X := [tf]) ((Fr.refl [tf] h').set _ (.inl (by simp))) ?_ ?_, bl'⟩
      · intro hh; omega
      · simp only [List.mem_singleton]; omega
      · intro j hj
        simp only [List.mem_singleton]
        have := hF'.ev j hj
        omega
end Go.Proofs.Ytgjfpmjllpgadaa
