/- permgroup: the chain of a group. No condition of its own. -/
import Derived.Test.YthacglggkgmbhaaGGroupOrbitsBJ
set_option linter.unusedVariables false
set_option linter.unusedSimpArgs false
namespace Go.Proofs.Ythacglggkgmbhaa
open Go.RowKit

theorem CH.level {n i : Nat} {vt mt et : Nat → Nat} {R : Nat → List (Nat × Fn)} {S : Nat → List Fn} {h Y : HP} (H : CH n i vt mt et R S h) {G O V M ct : Nat} (hnx : h.next ≤ Y.next) (g1 : 2 * h.next ≤ G ∧ G < 2 * Y.next ∧ G % 2 = 0) (o1 : 2 * h.next ≤ O ∧ O < 2 * Y.next ∧ O % 2 = 0) (v1 : 2 * h.next ≤ V ∧ V < 2 * Y.next ∧ V % 2 = 1) (m1 : 2 * h.next ≤ M ∧ M < 2 * Y.next) (hgo : G ≠ O)
    (hV : Y.blk V = some [.ref G 0 1 (S i).length, .mref M, .ref O 0 1 (R i).length]) (hG : Y.blk G = some (gL n (S i))) (hO : Y.blk O = some (ints (oL (R i)))) (hM : Y.sp M = some (.gmap .int (kL (R i)) (pL n (R i)))) (hnd : (S i).Nodup)
    (hb : ∀ t, t < 2 * h.next → t ≠ ct → Y.blk t = h.blk t) (hs : ∀ t, t < 2 * h.next → Y.sp t = h.sp t) (hce : ct % 2 = 0) (hcn : ∀ a, a < 2 * i → et a ≠ ct) : CH n (i + 1) (ovr vt i V) (ovr mt i M) (ovr (ovr et (2 * i) G) (2 * i + 1) O) R S Y := by
  have e0 : ∀ a, a < 2 * i → ovr (ovr et (2 * i) G) (2 * i + 1) O a = et a := fun a ha => by rw [ovr_ne _ _ (by omega), ovr_ne _ _ (by omega)]
  have e1 : ovr (ovr et (2 * i) G) (2 * i + 1) O (2 * i) = G := by rw [ovr_ne _ _ (by omega), ovr_same]
  have e2 : ovr (ovr et (2 * i) G) (2 * i + 1) O (2 * i + 1) = O := ovr_same _ _ _
  have ec : ∀ a, a < 2 * (i + 1) → a < 2 * i ∨ a = 2 * i ∨ a = 2 * i + 1 := fun a ha => by omega
  refine ⟨fun a ha => ?_, fun a ha => ?_, fun a ha => ?_, fun a ha => ?_, fun a b ha hb' e => ?_, fun a b ha hb' e => ?_, fun a b ha hb' e => ?_, fun a ha => ?_, fun a ha => ?_, fun a ha => ?_, fun a ha => ?_, fun a ha => ?_, fun a ha => ?_⟩
  · by_cases c : a = i
    · subst c; rw [ovr_same, ovr_same, e1, e2]; exact hV
    · have hai : a < i := by omega
      rw [ovr_ne _ _ c, ovr_ne _ _ c, e0 _ (by omega), e0 _ (by omega), hb _ (H.ltv a hai) (fun e => by have := H.od a hai; omega)]
      exact H.v a hai
  · by_cases c : a = i
    · subst c; rw [e1]; exact hG
    · rw [e0 _ (by omega), hb _ (H.lte _ (by omega)) (hcn _ (by omega))]
      exact H.g a (by omega)
  · by_cases c : a = i
    · subst c; rw [e2]; exact hO
    · rw [e0 _ (by omega), hb _ (H.lte _ (by omega)) (hcn _ (by omega))]
      exact H.o a (by omega)
  · by_cases c : a = i
    · subst c; rw [ovr_same]; exact hM
    · rw [ovr_ne _ _ c, hs _ (H.ltm a (by omega))]
      exact H.mp a (by omega)
  · rcases ec a ha with h1 | rfl | rfl <;> rcases ec b hb' with h2 | rfl | rfl
    · rw [e0 a h1, e0 b h2] at e; exact H.inj a b h1 h2 e
    · rw [e0 a h1, e1] at e; have := H.lte a h1; omega
    · rw [e0 a h1, e2] at e; have := H.lte a h1; omega
    · rw [e1, e0 b h2] at e; have := H.lte b h2; omega
    · rfl
    · rw [e1, e2] at e; exact absurd e hgo
    · rw [e2, e0 b h2] at e; have := H.lte b h2; omega
    · rw [e1, e2] at e; exact absurd e.symm hgo
    · rfl
  · by_cases c1 : a = i
    · by_cases c2 : b = i
      · omega
      · rw [c1, ovr_same, ovr_ne _ _ c2] at e; have := H.ltv b (by omega); omega
    · by_cases c2 : b = i
      · rw [c2, ovr_same, ovr_ne _ _ c1] at e; have := H.ltv a (by omega); omega
      · rw [ovr_ne _ _ c1, ovr_ne _ _ c2] at e; exact H.vinj a b (by omega) (by omega) e
  · by_cases c1 : a = i
    · by_cases c2 : b = i
      · omega
      · rw [c1, ovr_same, ovr_ne _ _ c2] at e; have := H.ltm b (by omega); omega
    · by_cases c2 : b = i
      · rw [c2, ovr_same, ovr_ne _ _ c1] at e; have := H.ltm a (by omega); omega
      · rw [ovr_ne _ _ c1, ovr_ne _ _ c2] at e; exact H.minj a b (by omega) (by omega) e
  · rcases ec a ha with h1 | rfl | rfl
    · rw [e0 a h1]; exact H.ev a h1
    · rw [e1]; exact g1.2.2
    · rw [e2]; exact o1.2.2
  · by_cases c : a = i
    · subst c; rw [ovr_same]; exact v1.2.2
    · rw [ovr_ne _ _ c]; exact H.od a (by omega)
  · rcases ec a ha with h1 | rfl | rfl
    · rw [e0 a h1]; have := H.lte a h1; omega
    · rw [e1]; exact g1.2.1
    · rw [e2]; exact o1.2.1
  · by_cases c : a = i
    · subst c; rw [ovr_same]; exact v1.2.1
    · rw [ovr_ne _ _ c]; have := H.ltv a (by omega); omega
  · by_cases c : a = i
    · subst c; rw [ovr_same]; exact m1.2
    · rw [ovr_ne _ _ c]; have := H.ltm a (by omega); omega
  · by_cases c : a = i
    · subst c; exact hnd
    · exact H.nd a (by omega)
theorem gL_at {n k : Nat} {l : List Fn} (h : k < l.length) : ((gL n l).drop ((k : Int).toNat * 1))[0]? = some (pli (tabN n (l.getD k id))) := by simp [gL, List.getD, h]
theorem CH.kill {n m : Nat} {vt mt et : Nat → Nat} {R : Nat → List (Nat × Fn)} {S : Nat → List Fn} {h : HP} (H : CH n m vt mt et R S h) {ct : Nat} (hce : ct % 2 = 0) (hcn : ∀ a, a < 2 * m → et a ≠ ct) : CH n m vt mt et R S (h.kill ct) :=
  ⟨fun i hi => (HP.kill_other _ (fun e => by have := H.od i hi; omega)).trans (H.v i hi), fun i hi => (HP.kill_other _ (hcn _ (by omega))).trans (H.g i hi), fun i hi => (HP.kill_other _ (hcn _ (by omega))).trans (H.o i hi), H.mp, H.inj, H.vinj, H.minj, H.ev, H.od, H.lte, H.ltv, H.ltm, H.nd⟩
theorem mem_one {x i : Nat} {u : Fn} (h : (x, u) ∈ [((i : Nat), (id : Fn))]) : x = i ∧ u = id := by simpa using h
theorem good_start (n : Nat) : Good n (fun i => [(i, id)]) (fun _ => []) 0 := by
  refine ⟨fun j _ hj => ⟨fun x u h => ?_, by simp, by simp, fun g hg => (by cases hg), fun x u h => ?_, fun _ g hg => (by cases hg)⟩, fun j _ hj x u _ g hg => (by cases hg), fun _ _ => rfl⟩
  · obtain ⟨rfl, rfl⟩ := mem_one h
    exact ⟨.one n, rfl, fun _ _ => rfl⟩
  · obtain ⟨rfl, rfl⟩ := mem_one h
    exact .one
set_option maxHeartbeats 16000000 in
set_option maxRecDepth 100000 in
theorem newChain_e {cl : Bool} {n : Nat} (hn : n ≤ 9) {gs : List Fn} (hg : ∀ g ∈ gs, Pe n g) (hl : gs.length ≤ 1000) :
    SChE Try.prog 33 [pint n, .lst cl 1 gs.length (gL n gs)] H0 (fun r h' => ∃ vt mt et R S, r = chn n vt ∧ CH n n vt mt et R S h' ∧ Good n R S 0 ∧ ∀ p, Gm (inS S 0) p ↔ Gm (· ∈ gs) p) := by
  refine SChE.go { mt := [20, 22] } tok mixed Try.func33 rfl rfl Try.ntmps33 rfl rfl (by kernel_rfl) (fun hw => ?_)
  have kI := identity_s n hn
  first | simp only [updS] | simp only [updL, Nat.reduceAdd]
  repeat (first | refine S0 ?_ | refine S1 ?_ | refine S2 ?_ | refine S4 ?_ | refine S5 ?_ | refine S6 ?_ | refine S7 ?_ | refine S8 ?_ | refine S10 ?_ | refine S11 ?_ | refine S13 ?_ | refine S15 ?_ | refine S16 ?_ | refine S19 ?_ | refine S20 ?_ | refine S21 ?_ | refine S22 ?_ | refine S23 ?_ | refine S25 ?_ | refine S42 ?_ | refine S49 ?_ | refine S50 ?_ | refine S69 ?_ | refine S88 ?_ | refine S90 ?_)
  refine CW.own 5 1 rfl ?_
  refine CW.loopS (fun x : Nat × Nat × (Nat → Nat) × (Nat → Nat) × (Nat → Nat) => x.1 ≤ n) (fun x => [(0, pint n), (1, .lst cl 1 gs.length (gL n gs)), (5, .ref x.2.1 0 1 x.1), (9, pint n), (10, pint x.1)])
    (fun x hp => hp.blk x.2.1 = some ((List.range x.1).map fun i => PV.ptr (x.2.2.1 i) 0) ∧ x.2.1 % 2 = 0 ∧ x.2.1 < 2 * hp.next ∧ (∀ a, a < 2 * x.1 → x.2.2.2.2 a ≠ x.2.1) ∧ CH n x.1 x.2.2.1 x.2.2.2.1 x.2.2.2.2 (fun i => [(i, id)]) (fun _ => []) hp) (fun x => n - x.1) (0, 0, id, id, id) ⟨Nat.zero_le _, SLx, by
      simp only
      exact ⟨rfl, trivial, by decide, fun a ha => by omega, ⟨fun i hi => absurd hi (by omega), fun i hi => absurd hi (by omega), fun i hi => absurd hi (by omega), fun i hi => absurd hi (by omega), fun a b ha => absurd ha (by omega), fun a b ha => absurd ha (by omega), fun a b ha => absurd ha (by omega), fun a ha => absurd ha (by omega), fun a ha => absurd ha (by omega), fun a ha => absurd ha (by omega), fun a ha => absurd ha (by omega), fun a ha => absurd ha (by omega), fun i hi => absurd hi (by omega)⟩⟩⟩ ?_
  rintro ⟨i, ct, vt, mt, et⟩ t hp hi ⟨hc, hce, hcl, hcn, H⟩
  simp only at hi hc hce hcl hcn H
  first | simp only [updS] | simp only [updL, Nat.reduceAdd]
  by_cases hi2 : i < n
  · repeat (first | refine S0 ?_ | refine S1 ?_ | refine S2 ?_ | refine S4 ?_ | refine S5 ?_ | refine S6 ?_ | refine S7 ?_ | refine S8 ?_ | refine S10 ?_ | refine S11 ?_ | refine S13 ?_ | refine S15 ?_ | refine S16 ?_ | refine S19 ?_ | refine S20 ?_ | refine S21 ?_ | refine S22 ?_ | refine S23 ?_ | refine S25 ?_ | refine S42 ?_ | refine S49 ?_ | refine S50 ?_ | refine S69 ?_ | refine S88 ?_ | refine S90 ?_)
    refine Scall (args := [pint n]) kI ?_
    repeat (first | refine S0 ?_ | refine S1 ?_ | refine S2 ?_ | refine S4 ?_ | refine S5 ?_ | refine S6 ?_ | refine S7 ?_ | refine S8 ?_ | refine S10 ?_ | refine S11 ?_ | refine S13 ?_ | refine S15 ?_ | refine S16 ?_ | refine S19 ?_ | refine S20 ?_ | refine S21 ?_ | refine S22 ?_ | refine S23 ?_ | refine S25 ?_ | refine S42 ?_ | refine S49 ?_ | refine S50 ?_ | refine S69 ?_ | refine S88 ?_ | refine S90 ?_)
    rw [show hp.tok true = 2 * hp.next + 1 from rfl, show ((((hp.addS true (SpC.gmap KT.int [] [])).setS (2 * hp.next + 1) (SpC.gmap KT.int (insK [] [(i : Int)]) (insP [] [] [(i : Int)] (pli (tabN n id))))).add false [.sc (.int .i64 (i : Int))]).tok true) = 2 * hp.next + 5 from rfl, show (((hp.addS true (SpC.gmap KT.int [] [])).setS (2 * hp.next + 1) (SpC.gmap KT.int (insK [] [(i : Int)]) (insP [] [] [(i : Int)] (pli (tabN n id))))).tok false) = 2 * hp.next + 2 from rfl]
    obtain ⟨X, hX⟩ : ∃ X, X = (((hp.addS true (SpC.gmap KT.int [] [])).setS (2 * hp.next + 1) (SpC.gmap KT.int (insK [] [(i : Int)]) (insP [] [] [(i : Int)] (pli (tabN n id))))).add false [.sc (.int .i64 (i : Int))]).add true [.lst true 0 0 [], .mref (2 * hp.next + 1), .ref (2 * hp.next + 2) 0 1 1] := ⟨_, rfl⟩
    have x1 : X.next = hp.next + 3 := by rw [hX]; rfl
    have x2 : X.blk (2 * hp.next + 5) = some [.lst true 0 0 [], .mref (2 * hp.next + 1), .ref (2 * hp.next + 2) 0 1 1] := by rw [hX]; exact HP.add_same _ true _
    have x3 : X.blk (2 * hp.next + 2) = some (ints [(i : Int)]) := by
      rw [hX]
      exact (HP.add_other _ true _ (by show 2 * hp.next + 2 ≠ 2 * (hp.next + 2) + 1; omega)).trans (HP.add_same _ false _)
    have x4 : X.sp (2 * hp.next + 1) = some (.gmap .int [[(i : Int)]] [pli (tabN n id)]) := by
      rw [hX]
      exact HP.setS_same _ _ _
    have x5 : ∀ t, t < 2 * hp.next → X.blk t = hp.blk t := fun t ht => by
      rw [hX]
      exact (HP.add_other _ true _ (by show t ≠ 2 * (hp.next + 2) + 1; omega)).trans (HP.add_other _ false _ (by show t ≠ 2 * (hp.next + 1) + 0; omega))
    have x6 : ∀ t, t < 2 * hp.next → X.sp t = hp.sp t := fun t ht => by
      rw [hX]
      exact (HP.setS_other _ _ (by omega)).trans (HP.addS_other _ _ _ (by show t ≠ 2 * hp.next + 1; omega))
    rw [← hX]
    clear hX
    have x7 := (x5 ct hcl).trans hc
    refine AW.app (r := (List.range (i + 1)).map fun a => PV.ptr (ovr vt i (2 * hp.next + 5) a) 0) (q := i + 1) EVx (by first | exact Or.inl rfl | exact Or.inr ⟨rfl, HP.tok_even _⟩ | exact Or.inr (Or.inl ⟨rfl, HP.tok_even _⟩) | exact Or.inr (Or.inr ⟨rfl, HP.tok_odd _⟩) | exact Or.inr (Or.inl rfl) | exact Or.inr (Or.inr (Or.inl rfl)) | exact Or.inr (Or.inr (Or.inr (Or.inl ⟨rfl, HP.tok_odd _⟩))) | exact Or.inr (Or.inr (Or.inr (Or.inr ⟨rfl, HP.tok_even _⟩))) | exact Or.inr (Or.inr (Or.inr (Or.inr ⟨rfl, by assumption⟩))) | exact Or.inr ⟨rfl, by assumption⟩ | exact Or.inr (Or.inl ⟨rfl, by assumption⟩) | exact Or.inr (Or.inr ⟨rfl, by assumption⟩) | exact Or.inr (Or.inr (Or.inr (Or.inl ⟨rfl, by assumption⟩))) | exact Or.inr (Or.inr (Or.inl ⟨rfl, HP.tok_odd _⟩)) | exact Or.inr (Or.inr (Or.inl ⟨rfl, by assumption⟩)) | exact Or.inr (Or.inr (Or.inr rfl)) | exact Or.inr (Or.inr rfl) | exact Or.inr rfl) rfl x7 (by first | exact ⟨rfl, rfl, .inr rfl⟩ | exact ⟨rfl, rfl, .inl rfl⟩ | (simp only [evA, upd, putA, Nat.reduceEqDiff, ↓reduceIte]; first | exact ⟨rfl, rfl, .inr rfl⟩ | exact ⟨rfl, rfl, .inl rfl⟩)) (by simp) (by first | exact ints_ones _ | (intro p hp; simp only [List.mem_singleton] at hp; subst hp; rfl) | (intro p hp; simp at hp; subst hp; rfl)) (by first | omega | (simp only [ints_length, bls_length, List.length_map, List.length_append, List.length_set, List.length_cons, List.length_nil, Int.toNat_natCast]; omega)) (by
      rw [List.drop_zero, Nat.mul_one, List.take_of_length_le (by simp), List.range_succ, List.map_append]
      congr 1
      · exact List.map_congr_left fun a ha => by rw [ovr_ne _ _ (by have := List.mem_range.1 ha; omega)]
      · simp [ovr_same]) rfl ?_
    iterate 4 (first | refine S0 ?_ | refine S1 ?_ | refine S2 ?_ | refine S4 ?_ | refine S5 ?_ | refine S6 ?_ | refine S7 ?_ | refine S8 ?_ | refine S10 ?_ | refine S11 ?_ | refine S13 ?_ | refine S15 ?_ | refine S16 ?_ | refine S19 ?_ | refine S20 ?_ | refine S21 ?_ | refine S22 ?_ | refine S23 ?_ | refine S25 ?_ | refine S42 ?_ | refine S49 ?_ | refine S50 ?_ | refine S69 ?_ | refine S88 ?_ | refine S90 ?_)
    obtain ⟨r, hr⟩ : ∃ r, r = (List.range (i + 1)).map fun a => PV.ptr (ovr vt i (2 * hp.next + 5) a) 0 := ⟨_, rfl⟩
    rw [← hr, show X.tok false = 2 * (hp.next + 3) by rw [HP.tokF, x1]]
    have y1 : ((X.kill ct).add false r).next = hp.next + 4 := by show X.next + 1 = _; rw [x1]
    have tk : (X.kill ct).tok false = 2 * (hp.next + 3) := by rw [HP.tokF]; show 2 * X.next = _; rw [x1]
    have y2 : ∀ t, t ≠ ct → t ≠ 2 * (hp.next + 3) → ((X.kill ct).add false r).blk t = X.blk t := fun t h1 h2 => (HP.add_other _ _ _ (by rw [tk]; exact h2)).trans (HP.kill_other _ h1)
    have y3 : ((X.kill ct).add false r).blk (2 * (hp.next + 3)) = some r := by
      have := HP.add_same (X.kill ct) false r
      rwa [tk] at this
    have y4 : ((X.kill ct).add false r).sp = X.sp := rfl
    generalize (X.kill ct).add false r = Y at *
    refine CW.ownC (2 * hp.next + 5) 0 1 ((y2 _ (by omega) (by omega)).trans x2) rfl (by omega) ?_
    rw [show Y.tok false = 2 * (hp.next + 4) by rw [HP.tokF, y1]]
    have tk2 : Y.tok false = 2 * (hp.next + 4) := by rw [HP.tokF, y1]
    obtain ⟨Z, hZ⟩ : ∃ Z, Z = (Y.add false []).set (2 * hp.next + 5) ([PV.lst true 0 0 [], .mref (2 * hp.next + 1), .ref (2 * hp.next + 2) 0 1 1].set 0 (.ref (2 * (hp.next + 4)) 0 1 0)) := ⟨_, rfl⟩
    rw [← hZ]
    have z1 : Z.next = hp.next + 5 := by rw [hZ]; show Y.next + 1 = _; rw [y1]
    have z2 : Z.blk (2 * hp.next + 5) = some [.ref (2 * (hp.next + 4)) 0 1 0, .mref (2 * hp.next + 1), .ref (2 * hp.next + 2) 0 1 1] := by rw [hZ]; exact HP.set_same _ _ _
    have z3 : Z.blk (2 * (hp.next + 4)) = some [] := by
      rw [hZ]
      refine (HP.set_other _ _ (by omega)).trans ?_
      have := HP.add_same Y false []
      rwa [tk2] at this
    have z4 : ∀ t, t ≠ 2 * hp.next + 5 → t ≠ 2 * (hp.next + 4) → Z.blk t = Y.blk t := fun t h1 h2 => by
      rw [hZ]
      exact (HP.set_other _ _ h1).trans (HP.add_other _ _ _ (by rw [tk2]; exact h2))
    have z5 : Z.sp = X.sp := by rw [hZ]; exact y4
    clear hZ
    repeat (first | refine S0 ?_ | refine S1 ?_ | refine S2 ?_ | refine S4 ?_ | refine S5 ?_ | refine S6 ?_ | refine S7 ?_ | refine S8 ?_ | refine S10 ?_ | refine S11 ?_ | refine S13 ?_ | refine S15 ?_ | refine S16 ?_ | refine S19 ?_ | refine S20 ?_ | refine S21 ?_ | refine S22 ?_ | refine S23 ?_ | refine S25 ?_ | refine S42 ?_ | refine S49 ?_ | refine S50 ?_ | refine S69 ?_ | refine S88 ?_ | refine S90 ?_)
    refine ⟨(i + 1, 2 * (hp.next + 3), ovr vt i (2 * hp.next + 5), ovr mt i (2 * hp.next + 1), ovr (ovr et (2 * i) (2 * (hp.next + 4))) (2 * i + 1) (2 * hp.next + 2)), hi2, SLx, ⟨?_, by simp only; omega, by simp only; omega, fun a ha => ?_, ?_⟩, by simp only; omega⟩
    · simp only
      rw [z4 _ (by omega) (by omega), y3, hr]
    · simp only at ha ⊢
      by_cases c1 : a = 2 * i + 1
      · rw [c1, ovr_same]; omega
      · rw [ovr_ne _ _ c1]
        by_cases c2 : a = 2 * i
        · rw [c2, ovr_same]; omega
        · rw [ovr_ne _ _ c2]; have := H.lte a (by omega); omega
    · simp only
      refine H.level (ct := ct) (by omega) (by omega) (by omega) (by omega) (by omega) (by omega) z2 z3 ?_ (by rw [z5]; exact x4) List.nodup_nil (fun t h1 h2 => ?_) (fun t h1 => by rw [z5]; exact x6 t h1) hce hcn
      · rw [z4 _ (by omega) (by omega), y2 _ (by omega) (by omega)]
        exact x3
      · rw [z4 _ (by omega) (by omega), y2 _ h2 (by omega)]
        exact x5 t h1
  · obtain rfl : i = n := by omega
    repeat (first | refine S0 ?_ | refine S1 ?_ | refine S2 ?_ | refine S4 ?_ | refine S5 ?_ | refine S6 ?_ | refine S7 ?_ | refine S8 ?_ | refine S10 ?_ | refine S11 ?_ | refine S13 ?_ | refine S15 ?_ | refine S16 ?_ | refine S19 ?_ | refine S20 ?_ | refine S21 ?_ | refine S22 ?_ | refine S23 ?_ | refine S25 ?_ | refine S42 ?_ | refine S49 ?_ | refine S50 ?_ | refine S69 ?_ | refine S88 ?_ | refine S90 ?_)
    refine CW.freeze 5 (tk := ct) (v := chn i vt) rfl hc (by simp) (by rw [List.drop_zero, Nat.mul_one, List.take_of_length_le (by simp)]; rfl) ?_
    have H2 := H.kill hce hcn
    clear H hc hcl
    generalize hp.kill ct = hp2 at *
    refine CW.loopS (fun x : Nat × (Nat → Nat) × (Nat → List (Nat × Fn)) × (Nat → List Fn) => x.1 ≤ gs.length ∧ Good i x.2.2.1 x.2.2.2 0 ∧ (∀ a, a < x.1 → Gm (inS x.2.2.2 0) (gs.getD a id)) ∧ ∀ g ∈ x.2.2.2 0, Gm (· ∈ gs) g) (fun x => [(5, chn i vt), (26, .lst cl 1 gs.length (gL i gs)), (27, pint gs.length), (28, pint x.1)])
      (fun x hp => CH i i vt mt x.2.1 x.2.2.1 x.2.2.2 hp) (fun x => gs.length - x.1) (0, et, (fun i => [(i, id)]), (fun _ => [])) ⟨⟨Nat.zero_le _, good_start i, fun a ha => by simp only at ha; omega, fun g hg => (by cases hg)⟩, SLx, H2⟩ ?_
    clear H2
    rintro ⟨k, et, R, S⟩ t hp ⟨hk, G, q1, q2⟩ H
    simp only at hk G q1 q2 H
    first | simp only [updS] | simp only [updL, Nat.reduceAdd]
    by_cases hk2 : k < gs.length
    · have hgk := hg _ (mem_getD hk2 id)
      repeat (first | refine S0 ?_ | refine S1 ?_ | refine S2 ?_ | refine S4 ?_ | refine S5 ?_ | refine S6 ?_ | refine S7 ?_ | refine S8 ?_ | refine S10 ?_ | refine S11 ?_ | refine S13 ?_ | refine S15 ?_ | refine S16 ?_ | refine S19 ?_ | refine S20 ?_ | refine S21 ?_ | refine S22 ?_ | refine S23 ?_ | refine S25 ?_ | refine S42 ?_ | refine S49 ?_ | refine S50 ?_ | refine S69 ?_ | refine S88 ?_ | refine S90 ?_)
      refine AW.ldl EVx rfl (p := pli (tabN i (gs.getD k id))) (gL_at hk2) ?_
      repeat (first | refine S0 ?_ | refine S1 ?_ | refine S2 ?_ | refine S4 ?_ | refine S5 ?_ | refine S6 ?_ | refine S7 ?_ | refine S8 ?_ | refine S10 ?_ | refine S11 ?_ | refine S13 ?_ | refine S15 ?_ | refine S16 ?_ | refine S19 ?_ | refine S20 ?_ | refine S21 ?_ | refine S22 ?_ | refine S23 ?_ | refine S25 ?_ | refine S42 ?_ | refine S49 ?_ | refine S50 ?_ | refine S69 ?_ | refine S88 ?_ | refine S90 ?_)
      refine Scalle (args := [chn i vt, pli (tabN i (gs.getD k id)), pint (0 : Nat)]) (add_e hn i 0 (by omega) (by omega) hp et R S _ H G hgk (fun k hk => by omega)) ?_
      rintro r h' ⟨et', R', S', H', A, _⟩
      repeat (first | refine S0 ?_ | refine S1 ?_ | refine S2 ?_ | refine S4 ?_ | refine S5 ?_ | refine S6 ?_ | refine S7 ?_ | refine S8 ?_ | refine S10 ?_ | refine S11 ?_ | refine S13 ?_ | refine S15 ?_ | refine S16 ?_ | refine S19 ?_ | refine S20 ?_ | refine S21 ?_ | refine S22 ?_ | refine S23 ?_ | refine S25 ?_ | refine S42 ?_ | refine S49 ?_ | refine S50 ?_ | refine S69 ?_ | refine S88 ?_ | refine S90 ?_)
      refine ⟨(k + 1, et', R', S'), ⟨hk2, A.good, fun a ha => ?_, fun g hg' => ?_⟩, SLx, H', by simp only; omega⟩
      · simp only at ha ⊢
        by_cases c : a = k
        · rw [c]; exact A.mem
        · exact (q1 a (by omega)).mono (A.up 0)
      · simp only at hg'
        refine (A.gen g hg').bind ?_
        rintro s (hs | rfl)
        · exact q2 s hs
        · exact .gen (mem_getD hk2 id)
    · obtain rfl : k = gs.length := by omega
      repeat (first | refine S0 ?_ | refine S1 ?_ | refine S2 ?_ | refine S4 ?_ | refine S5 ?_ | refine S6 ?_ | refine S7 ?_ | refine S8 ?_ | refine S10 ?_ | refine S11 ?_ | refine S13 ?_ | refine S15 ?_ | refine S16 ?_ | refine S19 ?_ | refine S20 ?_ | refine S21 ?_ | refine S22 ?_ | refine S23 ?_ | refine S25 ?_ | refine S42 ?_ | refine S49 ?_ | refine S50 ?_ | refine S69 ?_ | refine S88 ?_ | refine S90 ?_)
      refine ⟨.inr rfl, _, ⟨_, rfl, rfl⟩, vt, mt, et, R, S, rfl, H, G, fun p => ⟨fun h => h.bind q2, fun h => h.bind fun g hg' => ?_⟩⟩
      obtain ⟨a, ha, e⟩ := List.getElem_of_mem hg'
      have := q1 a ha
      rwa [show gs.getD a id = g by simp [List.getD, ha, e]] at this
end Go.Proofs.Ythacglggkgmbhaa
