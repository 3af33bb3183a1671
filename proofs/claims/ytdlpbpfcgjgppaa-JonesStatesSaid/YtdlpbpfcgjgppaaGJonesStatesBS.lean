/- Facts and contracts that the claim uses. No condition of its own. -/
import Derived.Test.YtdlpbpfcgjgppaaGJonesStatesBR
set_option linter.unusedVariables false
set_option linter.unusedSimpArgs false
namespace Go.Proofs.Ytdlpbpfcgjgppaa
open Go.RowKit
set_option maxHeartbeats 32000000 in
set_option maxRecDepth 100000 in
theorem bracket_s {n : Nat} {w : List Int} (hn : 1 ≤ n ∧ n ≤ 6) (hw : lett n w) (hl : w.length ≤ 12) : SC Try.prog 24 [pint n, pli w] (ppo (poW (sumE (fun D => dpow (clD n D - 1)) (stS n w w.length)))) := by
  have k1 := jone_s hn
  have hv1 : Vd n (tabN (2 * n) (oneM n)) := vd_tab (oneM_mt n)
  have kk1 := jkey_s (D := tabN (2 * n) (oneM n)) (by rw [hv1.len]; omega)
  have kt1 := termW_s 1 0 (by unfold in64; omega) (by omega)
  rw [← LP.one_eq] at kt1
  have hkl : KT.ok (.arr 12) (pk (tabN (2 * n) (oneM n))) := pk_len (by rw [hv1.len]; omega)
  have e0 : stS n w 0 = [(tabN (2 * n) (oneM n), 1)] := rfl
  refine SC.go {} tok mixed Try.func24 rfl rfl Try.ntmps24 rfl rfl (by kernel_rfl) ?_
  first | simp only [updS] | simp only [updL, Nat.reduceAdd]
  repeat (first | refine S0 ?_ | refine S1 ?_ | refine S2 ?_ | refine S3 ?_ | refine S4 ?_ | refine S5 ?_ | refine S6 ?_ | refine S7 ?_ | refine S8 ?_ | refine S10 ?_ | refine S11 ?_ | refine S13 ?_ | refine S15 ?_ | refine S16 ?_ | refine S19 ?_ | refine S20 ?_ | refine S21 ?_ | refine S22 ?_ | refine S23 ?_ | refine S25 ?_ | refine S26 ?_ | refine S33 ?_ | refine S34 ?_ | refine S47 ?_ | refine S48 ?_ | refine S49 ?_ | refine S51 ?_ | refine S66 ?_ | refine S68 ?_ | refine S88 ?_ | refine S93 ?_)
  refine Scall (args := [pint n]) k1 ?_
  repeat (first | refine S0 ?_ | refine S1 ?_ | refine S2 ?_ | refine S3 ?_ | refine S4 ?_ | refine S5 ?_ | refine S6 ?_ | refine S7 ?_ | refine S8 ?_ | refine S10 ?_ | refine S11 ?_ | refine S13 ?_ | refine S15 ?_ | refine S16 ?_ | refine S19 ?_ | refine S20 ?_ | refine S21 ?_ | refine S22 ?_ | refine S23 ?_ | refine S25 ?_ | refine S26 ?_ | refine S33 ?_ | refine S34 ?_ | refine S47 ?_ | refine S48 ?_ | refine S49 ?_ | refine S51 ?_ | refine S66 ?_ | refine S68 ?_ | refine S88 ?_ | refine S93 ?_)
  refine Scall (args := [pli (tabN (2 * n) (oneM n))]) kk1 ?_
  repeat (first | refine S0 ?_ | refine S1 ?_ | refine S2 ?_ | refine S3 ?_ | refine S4 ?_ | refine S5 ?_ | refine S6 ?_ | refine S7 ?_ | refine S8 ?_ | refine S10 ?_ | refine S11 ?_ | refine S13 ?_ | refine S15 ?_ | refine S16 ?_ | refine S19 ?_ | refine S20 ?_ | refine S21 ?_ | refine S22 ?_ | refine S23 ?_ | refine S25 ?_ | refine S26 ?_ | refine S33 ?_ | refine S34 ?_ | refine S47 ?_ | refine S48 ?_ | refine S49 ?_ | refine S51 ?_ | refine S66 ?_ | refine S68 ?_ | refine S88 ?_ | refine S93 ?_)
  refine Scall (args := [pint 1, pint 0]) kt1 ?_
  repeat (first | refine S0 ?_ | refine S1 ?_ | refine S2 ?_ | refine S3 ?_ | refine S4 ?_ | refine S5 ?_ | refine S6 ?_ | refine S7 ?_ | refine S8 ?_ | refine S10 ?_ | refine S11 ?_ | refine S13 ?_ | refine S15 ?_ | refine S16 ?_ | refine S19 ?_ | refine S20 ?_ | refine S21 ?_ | refine S22 ?_ | refine S23 ?_ | refine S25 ?_ | refine S26 ?_ | refine S33 ?_ | refine S34 ?_ | refine S47 ?_ | refine S48 ?_ | refine S49 ?_ | refine S51 ?_ | refine S66 ?_ | refine S68 ?_ | refine S88 ?_ | refine S93 ?_)
  refine AW.gins (kk := .arr 12) (tk := 3) (key := pk (tabN (2 * n) (oneM n))) (p := ppo (poW 1)) EVx EVx EVx hkl rfl rfl (HP.addS_same _ _ _) ?_
  have i1 : insK [] (pk (tabN (2 * n) (oneM n))) = [tabN (2 * n) (oneM n)].map pk := by unfold insK; rw [if_neg (by simp)]; rfl
  have i2 : insP [] [] (pk (tabN (2 * n) (oneM n))) (ppo (poW 1)) = [tabN (2 * n) (oneM n)].map (jV (stS n w 0)) := by
    unfold insP
    rw [if_neg (by simp)]
    show [ppo (poW 1)] = [ppo (poW (col _ _))]
    rw [e0, col_one, if_pos rfl]
  rw [i1, i2]
  repeat (first | refine S0 ?_ | refine S1 ?_ | refine S2 ?_ | refine S3 ?_ | refine S4 ?_ | refine S5 ?_ | refine S6 ?_ | refine S7 ?_ | refine S8 ?_ | refine S10 ?_ | refine S11 ?_ | refine S13 ?_ | refine S15 ?_ | refine S16 ?_ | refine S19 ?_ | refine S20 ?_ | refine S21 ?_ | refine S22 ?_ | refine S23 ?_ | refine S25 ?_ | refine S26 ?_ | refine S33 ?_ | refine S34 ?_ | refine S47 ?_ | refine S48 ?_ | refine S49 ?_ | refine S51 ?_ | refine S66 ?_ | refine S68 ?_ | refine S88 ?_ | refine S93 ?_)
  have JM0 : JM n [tabN (2 * n) (oneM n)] (stS n w 0) := ⟨by simp, fun D hD => by simp only [List.mem_singleton] at hD; subst hD; exact hv1, fun e he => by rw [e0] at he; simp only [List.mem_singleton] at he; subst he; simp⟩
  refine CW.loopS (fun j : Nat × List (List Int) × Nat => j.1 ≤ w.length ∧ JM n j.2.1 (stS n w j.1)) (fun j => [(0, pint n), (4, .ptr 1 0), (5, .mref j.2.2), (26, pli w), (27, pint w.length), (28, pint j.1)])
    (fun j hp => hp.blk 1 = some [pint 0, .lst true 0 0 []] ∧ hp.sp j.2.2 = some (.gmap (.arr 12) (j.2.1.map pk) (j.2.1.map (jV (stS n w j.1)))) ∧ 1 ≤ hp.next ∧ j.2.2 < 2 * hp.next) (fun j => w.length - j.1) (0, [tabN (2 * n) (oneM n)], 3) ⟨⟨Nat.zero_le _, JM0⟩, SLx, HBx, HP.setS_same _ _ _, (by first | omega | (simp only [HP.tokF, HP.tokT, HP.next_add, HP.next_set, HP.next_kill, HP.next_H0, HP.next_addS, HP.next_setS, HP.next_killS, HP.next_put, HP.next_bump, HP.next_putS]; omega)), (by first | omega | (simp only [HP.tokF, HP.tokT, HP.next_add, HP.next_set, HP.next_kill, HP.next_H0, HP.next_addS, HP.next_setS, HP.next_killS, HP.next_put, HP.next_bump, HP.next_putS]; omega))⟩ ?_
  clear i1 i2 JM0 hkl kt1 kk1
  rintro ⟨j, Ds, tm⟩ t hp ⟨hj, hJ⟩ ⟨hB1, hS, hnx, htm⟩
  simp only at hj hJ hS htm
  first | simp only [updS] | simp only [updL, Nat.reduceAdd]
  have hvd := stS_vd w hw j hj
  have hsup := stS_sup hn.2 w hw j hj
  refine CW.freezeG 5 (tk := tm) rfl hS ?_
  by_cases hj2 : j < w.length
  · have hlx := lett_get hw hj2
    have htwo := stS_two n w j
    generalize hx : w.getD j 0 = x at *
    generalize hL : stS n w j = L at *
    repeat (first | refine S0 ?_ | refine S1 ?_ | refine S2 ?_ | refine S3 ?_ | refine S4 ?_ | refine S5 ?_ | refine S6 ?_ | refine S7 ?_ | refine S8 ?_ | refine S10 ?_ | refine S11 ?_ | refine S13 ?_ | refine S15 ?_ | refine S16 ?_ | refine S19 ?_ | refine S20 ?_ | refine S21 ?_ | refine S22 ?_ | refine S23 ?_ | refine S25 ?_ | refine S26 ?_ | refine S33 ?_ | refine S34 ?_ | refine S47 ?_ | refine S48 ?_ | refine S49 ?_ | refine S51 ?_ | refine S66 ?_ | refine S68 ?_ | refine S88 ?_ | refine S93 ?_)
    rw [hx]
    obtain ⟨t2, ht2⟩ : ∃ t2, t2 = (hp.killS tm).tok true := ⟨_, rfl⟩
    obtain ⟨ti, hti⟩ : ∃ ti, ti = ((hp.killS tm).addS true (SpC.gmap (KT.arr 12) [] [])).tok true := ⟨_, rfl⟩
    have ht2' : t2 = 2 * hp.next + 1 := ht2
    have hti' : ti = 2 * (hp.next + 1) + 1 := hti
    refine CW.loopS (fun i : List Nat × List (List Int) => (i.1.Nodup ∧ ∀ a ∈ i.1, a < Ds.length) ∧ JM n i.2 ((visL Ds L i.1).flatMap (two n x))) (fun i => [(0, pint n), (4, .ptr 1 0), (7, pint x), (8, .mref t2), (34, .itr ti), (26, pli w), (27, pint w.length), (28, pint j)])
      (fun i hp => (hp.blk 1 = some [pint 0, .lst true 0 0 []] ∧ hp.sp t2 = some (.gmap (.arr 12) (i.2.map pk) (i.2.map (jV ((visL Ds L i.1).flatMap (two n x)))))) ∧ hp.sp ti = some (.giter (.arr 12) (Ds.map pk) (Ds.map (jV L)) i.1) ∧ t2 < 2 * hp.next ∧ ti < 2 * hp.next) (fun i => Ds.length - i.1.length) ([], []) ⟨⟨⟨by simp, fun a ha => (by cases ha)⟩, ⟨by simp, fun D hD => (by cases hD), fun e he => (by cases he)⟩⟩, by rw [ht2, hti]; exact SLx, ⟨HBx, by rw [ht2]; exact (HP.addS_other _ _ _ (by rw [← ht2]; show t2 ≠ 2 * (hp.next + 1) + 1; omega)).trans (HP.addS_same _ _ _)⟩, by rw [hti]; exact HP.addS_same _ _ _, by show t2 < 2 * (hp.next + 2); omega, by show ti < 2 * (hp.next + 2); omega⟩ ?_
    have ht12 : t2 ≠ ti := by omega
    have h1n : 1 < t2 := by omega
    clear hB1 hS hnx htm ht2 hti ht2' hti'
    clear t hp
    rintro ⟨pre, Da⟩ t hp ⟨⟨hpd, hpl⟩, hJa⟩ ⟨⟨hB1, hS2⟩, hSi, hl2, hli⟩
    simp only at hpd hpl hJa hB1 hS2 hSi hl2 hli
    first | simp only [updS] | simp only [updL, Nat.reduceAdd]
    have hpE := pig_nat Ds.length pre hpd hpl
    refine CW.nextG rfl hSi ?_ ?_
    · intro hall
      have hperm := vis_all (L := L) hpd hpl (fun a ha => hall a (by rw [List.length_map]; exact ha))
      have hJ2 : JM n Da (stS n w (j + 1)) := ⟨hJa.nd, hJa.ok, by rw [htwo]; exact letter_keys hJ.all x hperm hJa.all⟩
      have hV : Da.map (jV ((visL Ds L pre).flatMap (two n x))) = Da.map (jV (stS n w (j + 1))) := List.map_congr_left fun D _ => by
        unfold jV col
        rw [htwo, letter_sum hJ.nd hJ.all x hperm]
      rw [hV] at hS2
      repeat (first | refine S0 ?_ | refine S1 ?_ | refine S2 ?_ | refine S3 ?_ | refine S4 ?_ | refine S5 ?_ | refine S6 ?_ | refine S7 ?_ | refine S8 ?_ | refine S10 ?_ | refine S11 ?_ | refine S13 ?_ | refine S15 ?_ | refine S16 ?_ | refine S19 ?_ | refine S20 ?_ | refine S21 ?_ | refine S22 ?_ | refine S23 ?_ | refine S25 ?_ | refine S26 ?_ | refine S33 ?_ | refine S34 ?_ | refine S47 ?_ | refine S48 ?_ | refine S49 ?_ | refine S51 ?_ | refine S66 ?_ | refine S68 ?_ | refine S88 ?_ | refine S93 ?_)
      exact ⟨(j + 1, Da, t2), ⟨hj2, hJ2⟩, SLx, ⟨hB1, hS2, (by first | omega | (simp only [HP.tokF, HP.tokT, HP.next_add, HP.next_set, HP.next_kill, HP.next_H0, HP.next_addS, HP.next_setS, HP.next_killS, HP.next_put, HP.next_bump, HP.next_putS]; omega)), hl2⟩, by simp only; omega⟩
    · intro i hi hnp
      rw [List.length_map] at hi
      obtain ⟨D, hD⟩ : ∃ D, D = Ds.getD i [] := ⟨_, rfl⟩
      have hDm : D ∈ Ds := by rw [hD, getD_lt [] hi]; exact List.getElem_mem hi
      have hDv := hJ.ok D hDm
      have hDl := hDv.len
      have hgk : (Ds.map pk).getD i [] = pk D := by rw [hD]; simp [List.getD, hi]
      have hgv : (Ds.map (jV L)).getD i .junk = ppo (poW (col L D)) := by rw [hD]; simp only [List.getD, List.getElem?_map, List.getElem?_eq_getElem hi, Option.map_some, Option.getD_some]; rfl
      have hil : (ints (pk D)).length = 12 := by rw [ints_length, pk_len (by omega)]
      have hsn := vis_snoc Ds L pre i n x
      rw [← hD] at hsn
      have hcs : Sup ((37 * j : Nat) : Int) (col L D) := col_sup D hsup
      repeat (first | refine S0 ?_ | refine S1 ?_ | refine S2 ?_ | refine S3 ?_ | refine S4 ?_ | refine S5 ?_ | refine S6 ?_ | refine S7 ?_ | refine S8 ?_ | refine S10 ?_ | refine S11 ?_ | refine S13 ?_ | refine S15 ?_ | refine S16 ?_ | refine S19 ?_ | refine S20 ?_ | refine S21 ?_ | refine S22 ?_ | refine S23 ?_ | refine S25 ?_ | refine S26 ?_ | refine S33 ?_ | refine S34 ?_ | refine S47 ?_ | refine S48 ?_ | refine S49 ?_ | refine S51 ?_ | refine S66 ?_ | refine S68 ?_ | refine S88 ?_ | refine S93 ?_)
      refine AW.gent (kk := .arr 12) EVx rfl (HP.setS_same _ _ _) (by rw [List.length_map]; exact hi) (p := .agg (ints (pk D))) (by rw [hgk]; rfl) hgv ?_
      repeat (first | refine S0 ?_ | refine S1 ?_ | refine S2 ?_ | refine S3 ?_ | refine S4 ?_ | refine S5 ?_ | refine S6 ?_ | refine S7 ?_ | refine S8 ?_ | refine S10 ?_ | refine S11 ?_ | refine S13 ?_ | refine S15 ?_ | refine S16 ?_ | refine S19 ?_ | refine S20 ?_ | refine S21 ?_ | refine S22 ?_ | refine S23 ?_ | refine S25 ?_ | refine S26 ?_ | refine S33 ?_ | refine S34 ?_ | refine S47 ?_ | refine S48 ?_ | refine S49 ?_ | refine S51 ?_ | refine S66 ?_ | refine S68 ?_ | refine S88 ?_ | refine S93 ?_)
      refine AW.staR (r := ints (pk D)) EVx (by first | exact Or.inl rfl | exact Or.inr ⟨rfl, HP.tok_even _⟩ | exact Or.inr (Or.inl ⟨rfl, HP.tok_even _⟩) | exact Or.inr (Or.inr ⟨rfl, HP.tok_odd _⟩) | exact Or.inr (Or.inl rfl) | exact Or.inr (Or.inr (Or.inl rfl)) | exact Or.inr (Or.inr (Or.inr (Or.inl ⟨rfl, HP.tok_odd _⟩))) | exact Or.inr (Or.inr (Or.inr (Or.inr ⟨rfl, HP.tok_even _⟩))) | exact Or.inr (Or.inr (Or.inr (Or.inr ⟨rfl, by assumption⟩))) | exact Or.inr ⟨rfl, by assumption⟩ | exact Or.inr (Or.inl ⟨rfl, by assumption⟩) | exact Or.inr (Or.inr ⟨rfl, by assumption⟩) | exact Or.inr (Or.inr (Or.inr (Or.inl ⟨rfl, by assumption⟩))) | exact Or.inr (Or.inr (Or.inl ⟨rfl, HP.tok_odd _⟩)) | exact Or.inr (Or.inr (Or.inl ⟨rfl, by assumption⟩)) | exact Or.inr (Or.inr (Or.inr rfl)) | exact Or.inr (Or.inr rfl) | exact Or.inr rfl) EVx rfl HBx hil (by decide) (fun p hp => ints_ones _ p hp) (by simp [hil]) ?_
      iterate 3 (first | refine S0 ?_ | refine S1 ?_ | refine S2 ?_ | refine S3 ?_ | refine S4 ?_ | refine S5 ?_ | refine S6 ?_ | refine S7 ?_ | refine S8 ?_ | refine S10 ?_ | refine S11 ?_ | refine S13 ?_ | refine S15 ?_ | refine S16 ?_ | refine S19 ?_ | refine S20 ?_ | refine S21 ?_ | refine S22 ?_ | refine S23 ?_ | refine S25 ?_ | refine S26 ?_ | refine S33 ?_ | refine S34 ?_ | refine S47 ?_ | refine S48 ?_ | refine S49 ?_ | refine S51 ?_ | refine S66 ?_ | refine S68 ?_ | refine S88 ?_ | refine S93 ?_)
      refine CW.freezeP 9 (tk := 2 * hp.next + 1) rfl ((HP.set_other _ _ (by show _ ≠ 2 * (hp.next + 1) + 1; omega)).trans (HP.set_same _ _ _)) ?_
      refine CW.freezeP 10 (tk := 2 * (hp.next + 1) + 1) rfl ((HP.kill_other _ (by omega)).trans (HP.set_same _ _ _)) ?_
      refine CW.cut [(0, pint n), (4, .ptr 1 0), (7, pint x), (8, .mref t2), (34, .itr ti), (26, pli w), (27, pint w.length), (28, pint j), (9, .lptr (ints (pk D))), (10, .lptr [pint (poW (col L D)).1, pli (poW (col L D)).2])]
        (fun h => (h.blk 1 = some [pint 0, .lst true 0 0 []] ∧ h.sp t2 = some (.gmap (.arr 12) (Da.map pk) (Da.map (jV ((visL Ds L pre).flatMap (two n x)))))) ∧ h.sp ti = some (.giter (.arr 12) (Ds.map pk) (Ds.map (jV L)) (pre ++ [i])) ∧ t2 < 2 * h.next ∧ ti < 2 * h.next)
        ⟨SLx, ⟨HBx, (HP.setS_other _ _ ht12).trans hS2⟩, HP.setS_same _ _ _, by show t2 < 2 * (hp.next + 2); omega, by show ti < 2 * (hp.next + 2); omega⟩ ?_
      clear hB1 hS2 hSi hl2 hli
      clear t hp
      rintro t hp ⟨⟨hB1, hS2⟩, hSi, hl2, hli⟩
      first | simp only [updS] | simp only [updL, Nat.reduceAdd]
      have hxa : -9000000000000000000 ≤ x ∧ x ≤ 9000000000000000000 := by have := hn.2; omega
      have kI := bindex_s x hxa
      have eI : absI x = ((x.natAbs : Nat) : Int) := by unfold absI; omega
      rw [eI] at kI
      have kC := jcup_s (n := n) (i := x.natAbs) hn.2 (by omega)
      repeat (first | refine S0 ?_ | refine S1 ?_ | refine S2 ?_ | refine S3 ?_ | refine S4 ?_ | refine S5 ?_ | refine S6 ?_ | refine S7 ?_ | refine S8 ?_ | refine S10 ?_ | refine S11 ?_ | refine S13 ?_ | refine S15 ?_ | refine S16 ?_ | refine S19 ?_ | refine S20 ?_ | refine S21 ?_ | refine S22 ?_ | refine S23 ?_ | refine S25 ?_ | refine S26 ?_ | refine S33 ?_ | refine S34 ?_ | refine S47 ?_ | refine S48 ?_ | refine S49 ?_ | refine S51 ?_ | refine S66 ?_ | refine S68 ?_ | refine S88 ?_ | refine S93 ?_)
      refine Scall (args := [pint n]) k1 ?_
      repeat (first | refine S0 ?_ | refine S1 ?_ | refine S2 ?_ | refine S3 ?_ | refine S4 ?_ | refine S5 ?_ | refine S6 ?_ | refine S7 ?_ | refine S8 ?_ | refine S10 ?_ | refine S11 ?_ | refine S13 ?_ | refine S15 ?_ | refine S16 ?_ | refine S19 ?_ | refine S20 ?_ | refine S21 ?_ | refine S22 ?_ | refine S23 ?_ | refine S25 ?_ | refine S26 ?_ | refine S33 ?_ | refine S34 ?_ | refine S47 ?_ | refine S48 ?_ | refine S49 ?_ | refine S51 ?_ | refine S66 ?_ | refine S68 ?_ | refine S88 ?_ | refine S93 ?_)
      refine Scall (args := [pint x]) kI ?_
      repeat (first | refine S0 ?_ | refine S1 ?_ | refine S2 ?_ | refine S3 ?_ | refine S4 ?_ | refine S5 ?_ | refine S6 ?_ | refine S7 ?_ | refine S8 ?_ | refine S10 ?_ | refine S11 ?_ | refine S13 ?_ | refine S15 ?_ | refine S16 ?_ | refine S19 ?_ | refine S20 ?_ | refine S21 ?_ | refine S22 ?_ | refine S23 ?_ | refine S25 ?_ | refine S26 ?_ | refine S33 ?_ | refine S34 ?_ | refine S47 ?_ | refine S48 ?_ | refine S49 ?_ | refine S51 ?_ | refine S66 ?_ | refine S68 ?_ | refine S88 ?_ | refine S93 ?_)
      refine Scall (args := [pint n, pint x.natAbs]) kC ?_
      repeat (first | refine S0 ?_ | refine S1 ?_ | refine S2 ?_ | refine S3 ?_ | refine S4 ?_ | refine S5 ?_ | refine S6 ?_ | refine S7 ?_ | refine S8 ?_ | refine S10 ?_ | refine S11 ?_ | refine S13 ?_ | refine S15 ?_ | refine S16 ?_ | refine S19 ?_ | refine S20 ?_ | refine S21 ?_ | refine S22 ?_ | refine S23 ?_ | refine S25 ?_ | refine S26 ?_ | refine S33 ?_ | refine S34 ?_ | refine S47 ?_ | refine S48 ?_ | refine S49 ?_ | refine S51 ?_ | refine S66 ?_ | refine S68 ?_ | refine S88 ?_ | refine S93 ?_)
      have hLbs := vis_sup hn.2 hlx hJ hsup hpl
      obtain ⟨Lb, hLb⟩ : ∃ Lb, Lb = (visL Ds L pre).flatMap (two n x) := ⟨_, rfl⟩
      rw [← hLb] at hS2 hJa hsn hLbs
      refine CW.loopS (fun z : Nat × List (List Int) => z.1 ≤ 2 ∧ JM n z.2 (Lb ++ (two n x (D, col L D)).take z.1)) (fun z => [(0, pint n), (4, .ptr 1 0), (7, pint x), (8, .mref t2), (34, .itr ti), (26, pli w), (27, pint w.length), (28, pint j), (9, .lptr (ints (pk D))), (10, .lptr [pint (poW (col L D)).1, pli (poW (col L D)).2]), (46, .lst true 1 2 [pli (tabN (2 * n) (oneM n)), pli (tabN (2 * n) (cupM n (x.natAbs - 1)))]), (47, pint 2), (48, pint z.1)])
        (fun z h => (h.blk 1 = some [pint 0, .lst true 0 0 []] ∧ h.sp t2 = some (.gmap (.arr 12) (z.2.map pk) (z.2.map (jV (Lb ++ (two n x (D, col L D)).take z.1))))) ∧ h.sp ti = some (.giter (.arr 12) (Ds.map pk) (Ds.map (jV L)) (pre ++ [i])) ∧ t2 < 2 * h.next ∧ ti < 2 * h.next) (fun z => 2 - z.1) (0, Da) ⟨⟨by simp, by simp only [List.take_zero, List.append_nil]; exact hJa⟩, SLx, ⟨hB1, by simp only [List.take_zero, List.append_nil]; exact hS2⟩, hSi, hl2, hli⟩ ?_
      clear hB1 hS2 hSi hl2 hli hJa kI kC
      clear t hp Da
      rintro ⟨z, Da⟩ t hp ⟨hz, hJa⟩ ⟨⟨hB1, hS2⟩, hSi, hl2, hli⟩
      simp only at hz hJa hB1 hS2 hSi hl2 hli
      rcases (show z = 2 ∨ z = 0 ∨ z = 1 by omega) with rfl | rfl | rfl
      · first | simp only [updS] | simp only [updL, Nat.reduceAdd]
        rw [show (two n x (D, col L D)).take 2 = two n x (D, col L D) from rfl, ← hsn] at hS2 hJa
        have hnd2 : (pre ++ [i]).Nodup := List.nodup_append.2 ⟨hpd, by simp, fun a ha b hb e => by simp only [List.mem_singleton] at hb; subst hb; exact hnp (e ▸ ha)⟩
        have hpl3 : ∀ j ∈ pre ++ [i], j < Ds.length := fun j hj => by
          rcases List.mem_append.1 hj with hj | hj
          · exact hpl j hj
          · simp only [List.mem_singleton] at hj; omega
        have hpE2 := pig_nat Ds.length _ hnd2 hpl3
        rw [List.length_append, List.length_singleton] at hpE2
        repeat (first | refine S0 ?_ | refine S1 ?_ | refine S2 ?_ | refine S3 ?_ | refine S4 ?_ | refine S5 ?_ | refine S6 ?_ | refine S7 ?_ | refine S8 ?_ | refine S10 ?_ | refine S11 ?_ | refine S13 ?_ | refine S15 ?_ | refine S16 ?_ | refine S19 ?_ | refine S20 ?_ | refine S21 ?_ | refine S22 ?_ | refine S23 ?_ | refine S25 ?_ | refine S26 ?_ | refine S33 ?_ | refine S34 ?_ | refine S47 ?_ | refine S48 ?_ | refine S49 ?_ | refine S51 ?_ | refine S66 ?_ | refine S68 ?_ | refine S88 ?_ | refine S93 ?_)
        exact ⟨(pre ++ [i], Da), ⟨⟨hnd2, hpl3⟩, hJa⟩, SLx, ⟨⟨hB1, hS2⟩, hSi, hl2, hli⟩, by simp only; rw [List.length_append, List.length_singleton]; omega⟩
      · have hEv : Vd n (chS n x (D, col L D) false).1 := (putD_ok hDv (chM_mt hlx false)).1
        have htk : (two n x (D, col L D)).take 1 = (two n x (D, col L D)).take 0 ++ [chS n x (D, col L D) false] := rfl
        have hJ3 := hJa.add hEv
        rw [List.append_assoc, ← htk] at hJ3
        have hLs : supS 1000 (Lb ++ (two n x (D, col L D)).take 0) := fun e he => by
          rcases List.mem_append.1 he with he | he
          · exact (hLbs e he).mono (by omega)
          · exact absurd he (by simp)
        by_cases h0 : 0 < x
        · refine brk_fp hn hlx h0 hDv (hcs.mono (by omega)) hLs hJa ht12 h1n rfl hB1 hS2 hSi hl2 hli (fun s hs g1 g2 g3 g4 g5 => ?_)
          rw [List.append_assoc, ← htk] at g2
          exact ⟨(1, insD Da _), ⟨by simp only; omega, hJ3⟩, hs, ⟨⟨g1, g2⟩, g3, g4, g5⟩, by simp only; omega⟩
        · refine brk_fn hn hlx h0 hDv (hcs.mono (by omega)) hLs hJa ht12 h1n rfl hB1 hS2 hSi hl2 hli (fun s hs g1 g2 g3 g4 g5 => ?_)
          rw [List.append_assoc, ← htk] at g2
          exact ⟨(1, insD Da _), ⟨by simp only; omega, hJ3⟩, hs, ⟨⟨g1, g2⟩, g3, g4, g5⟩, by simp only; omega⟩
      · have hEv : Vd n (chS n x (D, col L D) true).1 := (putD_ok hDv (chM_mt hlx true)).1
        have htk : (two n x (D, col L D)).take 2 = (two n x (D, col L D)).take 1 ++ [chS n x (D, col L D) true] := rfl
        have hJ3 := hJa.add hEv
        rw [List.append_assoc, ← htk] at hJ3
        have hLs : supS 1000 (Lb ++ (two n x (D, col L D)).take 1) := fun e he => by
          rcases List.mem_append.1 he with he | he
          · exact (hLbs e he).mono (by omega)
          · rw [show (two n x (D, col L D)).take 1 = [chS n x (D, col L D) false] from rfl, List.mem_singleton] at he
            rw [he]
            exact (nx_sup hn.2 hlx hDv hcs false).mono (by omega)
        by_cases h0 : 0 < x
        · refine brk_tp hn hlx h0 hDv (hcs.mono (by omega)) hLs hJa ht12 h1n rfl hB1 hS2 hSi hl2 hli (fun s hs g1 g2 g3 g4 g5 => ?_)
          rw [List.append_assoc, ← htk] at g2
          exact ⟨(2, insD Da _), ⟨by simp only; omega, hJ3⟩, hs, ⟨⟨g1, g2⟩, g3, g4, g5⟩, by simp only; omega⟩
        · refine brk_tn hn hlx h0 hDv (hcs.mono (by omega)) hLs hJa ht12 h1n rfl hB1 hS2 hSi hl2 hli (fun s hs g1 g2 g3 g4 g5 => ?_)
          rw [List.append_assoc, ← htk] at g2
          exact ⟨(2, insD Da _), ⟨by simp only; omega, hJ3⟩, hs, ⟨⟨g1, g2⟩, g3, g4, g5⟩, by simp only; omega⟩
  · obtain rfl : j = w.length := by omega
    generalize hL : stS n w w.length = L at *
    repeat (first | refine S0 ?_ | refine S1 ?_ | refine S2 ?_ | refine S3 ?_ | refine S4 ?_ | refine S5 ?_ | refine S6 ?_ | refine S7 ?_ | refine S8 ?_ | refine S10 ?_ | refine S11 ?_ | refine S13 ?_ | refine S15 ?_ | refine S16 ?_ | refine S19 ?_ | refine S20 ?_ | refine S21 ?_ | refine S22 ?_ | refine S23 ?_ | refine S25 ?_ | refine S26 ?_ | refine S33 ?_ | refine S34 ?_ | refine S47 ?_ | refine S48 ?_ | refine S49 ?_ | refine S51 ?_ | refine S66 ?_ | refine S68 ?_ | refine S88 ?_ | refine S93 ?_)
    obtain ⟨t17, ht17⟩ : ∃ t17, t17 = (hp.killS tm).tok true := ⟨_, rfl⟩
    obtain ⟨ti, hti⟩ : ∃ ti, ti = ((hp.killS tm).add true [PV.sc (.int .i64 0), .lst true 0 0 []]).tok true := ⟨_, rfl⟩
    have ht17' : t17 = 2 * hp.next + 1 := ht17
    have hti' : ti = 2 * (hp.next + 1) + 1 := hti
    obtain ⟨F, hF⟩ : ∃ F : List Int → LP, F = fun D => dpow (clD n D - 1) := ⟨_, rfl⟩
    rw [← hF]
    have p0 : poW 0 = (0, []) := poW0
    refine CW.nrmB t17 (cs := [pint 0, .lst true 0 0 []]) (r := [pint (poW 0).1, pli (poW 0).2]) (by rw [ht17]; exact HP.add_same _ _ _) (by rw [p0]; rfl) ?_
    refine CW.loopS (fun pre : List Nat => pre.Nodup ∧ ∀ a ∈ pre, a < Ds.length) (fun _ => [(0, pint n), (4, .ptr 1 0), (17, .ptr t17 0), (87, .itr ti)])
      (fun pre h => (h.blk 1 = some [pint 0, .lst true 0 0 []] ∧ h.blk t17 = some [pint (poW (sumE F (visL Ds L pre))).1, pli (poW (sumE F (visL Ds L pre))).2]) ∧ h.sp ti = some (.giter (.arr 12) (Ds.map pk) (Ds.map (jV L)) pre) ∧ t17 < 2 * h.next ∧ ti < 2 * h.next) (fun pre => Ds.length - pre.length) [] ⟨⟨by simp, fun a ha => (by cases ha)⟩, by rw [ht17, hti]; exact SLx, ⟨(HP.set_other _ _ (by omega)).trans ((HP.add_other _ _ _ (by rw [← ht17]; omega)).trans hB1), HP.set_same _ _ _⟩, by rw [hti]; exact HP.addS_same _ _ _, by show t17 < 2 * (hp.next + 2); omega, by show ti < 2 * (hp.next + 2); omega⟩ ?_
    have h1n : 1 < t17 := by omega
    have hodd : t17 % 2 = 1 := by omega
    have htt : t17 ≠ ti := by omega
    clear hB1 hS hnx htm ht17 hti ht17' hti'
    clear t hp
    rintro pre t hp ⟨hpd, hpl⟩ ⟨⟨hB1, hB17⟩, hSi, hl17, hli⟩
    first | simp only [updS] | simp only [updL, Nat.reduceAdd]
    have hpE := pig_nat Ds.length pre hpd hpl
    refine CW.nextG rfl hSi ?_ ?_
    · intro hall
      have hperm := vis_all (L := L) hpd hpl (fun a ha => hall a (by rw [List.length_map]; exact ha))
      rw [sumE_perm hperm, grp_sum hJ.nd hJ.all] at hB17
      repeat (first | refine S0 ?_ | refine S1 ?_ | refine S2 ?_ | refine S3 ?_ | refine S4 ?_ | refine S5 ?_ | refine S6 ?_ | refine S7 ?_ | refine S8 ?_ | refine S10 ?_ | refine S11 ?_ | refine S13 ?_ | refine S15 ?_ | refine S16 ?_ | refine S19 ?_ | refine S20 ?_ | refine S21 ?_ | refine S22 ?_ | refine S23 ?_ | refine S25 ?_ | refine S26 ?_ | refine S33 ?_ | refine S34 ?_ | refine S47 ?_ | refine S48 ?_ | refine S49 ?_ | refine S51 ?_ | refine S66 ?_ | refine S68 ?_ | refine S88 ?_ | refine S93 ?_)
      exact ⟨.inr rfl, FR.cell1 rfl HBx rfl rfl (.cl (by simp only [PV.cl, PV.cl.clL, pint_cl, pli_cl, Bool.and_self]))⟩
    · intro i hi hnp
      rw [List.length_map] at hi
      obtain ⟨D, hD⟩ : ∃ D, D = Ds.getD i [] := ⟨_, rfl⟩
      have hDm : D ∈ Ds := by rw [hD, getD_lt [] hi]; exact List.getElem_mem hi
      have hDv := hJ.ok D hDm
      have hDl := hDv.len
      have hgk : (Ds.map pk).getD i [] = pk D := by rw [hD]; simp [List.getD, hi]
      have hgv : (Ds.map (jV L)).getD i .junk = ppo (poW (col L D)) := by rw [hD]; simp only [List.getD, List.getElem?_map, List.getElem?_eq_getElem hi, Option.map_some, Option.getD_some]; rfl
      have hil : (ints (pk D)).length = 12 := by rw [ints_length, pk_len (by omega)]
      have hnd2 : (pre ++ [i]).Nodup := List.nodup_append.2 ⟨hpd, by simp, fun a ha b hb e => by simp only [List.mem_singleton] at hb; subst hb; exact hnp (e ▸ ha)⟩
      have hpl3 : ∀ j ∈ pre ++ [i], j < Ds.length := fun j hj => by
        rcases List.mem_append.1 hj with hj | hj
        · exact hpl j hj
        · simp only [List.mem_singleton] at hj; omega
      have hpE2 := pig_nat Ds.length _ hnd2 hpl3
      rw [List.length_append, List.length_singleton] at hpE2
      have hcs : Sup ((37 * w.length : Nat) : Int) (col L D) := col_sup D hsup
      have hcb := clD_bd hn.1 hDv
      have hFs : ∀ E ∈ Ds, Sup ((24 : Nat) : Int) (F E) := fun E hE => by
        have := clD_bd hn.1 (hJ.ok E hE)
        rw [hF]
        exact (dpow_sup _).mono (by omega)
      have hss : Sup ((37 * w.length + 24 : Nat) : Int) (sumE F (visL Ds L pre)) := sumE_sup (fun e he => by
        obtain ⟨a, _, rfl⟩ := List.mem_map.1 he
        exact col_sup _ hsup) (fun e he => by
        obtain ⟨a, ha, rfl⟩ := List.mem_map.1 he
        exact hFs _ (by simp only; rw [getD_lt [] (hpl a ha)]; exact List.getElem_mem _))
      have hsum : sumE F (visL Ds L (pre ++ [i])) = sumE F (visL Ds L pre) + LP.smul 1 (col L D * F D) := by
        have : visL Ds L (pre ++ [i]) = visL Ds L pre ++ [(D, col L D)] := by unfold visL; rw [List.map_append, hD]; rfl
        rw [this, sumE_app, LP.smul_one]
        show _ + (col L D * F D + 0) = _
        rw [LP.add_zero]
      have kcl := clD_s hn hDv
      have kpw := power_s (clD n D - 1) (by omega)
      have ktm := timesW_s (col L D) (F D) (hcs.mono (by omega)) ((hFs D hDm).mono (by omega))
      have kpl := plusW_s (sumE F (visL Ds L pre)) (col L D * F D) 1 (hss.mono (by omega)) ((Sup.mul hcs (hFs D hDm)).mono (by omega))
      rw [← hsum] at kpl
      rw [show dpow (clD n D - 1) = F D by rw [hF]] at kpw
      have hsl : (ints (pk D)).take (2 * (n : Int)).toNat = ints D := by
        rw [show (2 * (n : Int)).toNat = D.length by omega]
        unfold pk ints
        rw [List.map_append, List.take_append_of_le_length (by simp), List.take_of_length_le (by simp)]
      repeat (first | refine S0 ?_ | refine S1 ?_ | refine S2 ?_ | refine S3 ?_ | refine S4 ?_ | refine S5 ?_ | refine S6 ?_ | refine S7 ?_ | refine S8 ?_ | refine S10 ?_ | refine S11 ?_ | refine S13 ?_ | refine S15 ?_ | refine S16 ?_ | refine S19 ?_ | refine S20 ?_ | refine S21 ?_ | refine S22 ?_ | refine S23 ?_ | refine S25 ?_ | refine S26 ?_ | refine S33 ?_ | refine S34 ?_ | refine S47 ?_ | refine S48 ?_ | refine S49 ?_ | refine S51 ?_ | refine S66 ?_ | refine S68 ?_ | refine S88 ?_ | refine S93 ?_)
      refine AW.gent (kk := .arr 12) EVx rfl (HP.setS_same _ _ _) (by rw [List.length_map]; exact hi) (p := .agg (ints (pk D))) (by rw [hgk]; rfl) hgv ?_
      repeat (first | refine S0 ?_ | refine S1 ?_ | refine S2 ?_ | refine S3 ?_ | refine S4 ?_ | refine S5 ?_ | refine S6 ?_ | refine S7 ?_ | refine S8 ?_ | refine S10 ?_ | refine S11 ?_ | refine S13 ?_ | refine S15 ?_ | refine S16 ?_ | refine S19 ?_ | refine S20 ?_ | refine S21 ?_ | refine S22 ?_ | refine S23 ?_ | refine S25 ?_ | refine S26 ?_ | refine S33 ?_ | refine S34 ?_ | refine S47 ?_ | refine S48 ?_ | refine S49 ?_ | refine S51 ?_ | refine S66 ?_ | refine S68 ?_ | refine S88 ?_ | refine S93 ?_)
      refine AW.staR (r := ints (pk D)) EVx (by first | exact Or.inl rfl | exact Or.inr ⟨rfl, HP.tok_even _⟩ | exact Or.inr (Or.inl ⟨rfl, HP.tok_even _⟩) | exact Or.inr (Or.inr ⟨rfl, HP.tok_odd _⟩) | exact Or.inr (Or.inl rfl) | exact Or.inr (Or.inr (Or.inl rfl)) | exact Or.inr (Or.inr (Or.inr (Or.inl ⟨rfl, HP.tok_odd _⟩))) | exact Or.inr (Or.inr (Or.inr (Or.inr ⟨rfl, HP.tok_even _⟩))) | exact Or.inr (Or.inr (Or.inr (Or.inr ⟨rfl, by assumption⟩))) | exact Or.inr ⟨rfl, by assumption⟩ | exact Or.inr (Or.inl ⟨rfl, by assumption⟩) | exact Or.inr (Or.inr ⟨rfl, by assumption⟩) | exact Or.inr (Or.inr (Or.inr (Or.inl ⟨rfl, by assumption⟩))) | exact Or.inr (Or.inr (Or.inl ⟨rfl, HP.tok_odd _⟩)) | exact Or.inr (Or.inr (Or.inl ⟨rfl, by assumption⟩)) | exact Or.inr (Or.inr (Or.inr rfl)) | exact Or.inr (Or.inr rfl) | exact Or.inr rfl) EVx rfl HBx hil (by decide) (fun p hp => ints_ones _ p hp) (by simp [hil]) ?_
      iterate 3 (first | refine S0 ?_ | refine S1 ?_ | refine S2 ?_ | refine S3 ?_ | refine S4 ?_ | refine S5 ?_ | refine S6 ?_ | refine S7 ?_ | refine S8 ?_ | refine S10 ?_ | refine S11 ?_ | refine S13 ?_ | refine S15 ?_ | refine S16 ?_ | refine S19 ?_ | refine S20 ?_ | refine S21 ?_ | refine S22 ?_ | refine S23 ?_ | refine S25 ?_ | refine S26 ?_ | refine S33 ?_ | refine S34 ?_ | refine S47 ?_ | refine S48 ?_ | refine S49 ?_ | refine S51 ?_ | refine S66 ?_ | refine S68 ?_ | refine S88 ?_ | refine S93 ?_)
      refine CW.freezeP 18 (tk := 2 * hp.next + 1) rfl ((HP.set_other _ _ (by show _ ≠ 2 * (hp.next + 1) + 1; omega)).trans (HP.set_same _ _ _)) ?_
      refine CW.freezeP 19 (tk := 2 * (hp.next + 1) + 1) rfl ((HP.kill_other _ (by omega)).trans (HP.set_same _ _ _)) ?_
      refine CW.cut [(0, pint n), (4, .ptr 1 0), (17, .ptr t17 0), (87, .itr ti), (18, .lptr (ints (pk D))), (19, .lptr [pint (poW (col L D)).1, pli (poW (col L D)).2])]
        (fun h => (h.blk 1 = some [pint 0, .lst true 0 0 []] ∧ h.blk t17 = some [pint (poW (sumE F (visL Ds L pre))).1, pli (poW (sumE F (visL Ds L pre))).2]) ∧ h.sp ti = some (.giter (.arr 12) (Ds.map pk) (Ds.map (jV L)) (pre ++ [i])) ∧ t17 < 2 * h.next ∧ ti < 2 * h.next)
        ⟨SLx, ⟨HBx, HBx⟩, HP.setS_same _ _ _, by show t17 < 2 * (hp.next + 2); omega, by show ti < 2 * (hp.next + 2); omega⟩ ?_
      clear hB1 hB17 hSi hl17 hli
      clear t hp
      rintro t hp ⟨⟨hB1, hB17⟩, hSi, hl17, hli⟩
      first | simp only [updS] | simp only [updL, Nat.reduceAdd]
      repeat (first | refine S0 ?_ | refine S1 ?_ | refine S2 ?_ | refine S3 ?_ | refine S4 ?_ | refine S5 ?_ | refine S6 ?_ | refine S7 ?_ | refine S8 ?_ | refine S10 ?_ | refine S11 ?_ | refine S13 ?_ | refine S15 ?_ | refine S16 ?_ | refine S19 ?_ | refine S20 ?_ | refine S21 ?_ | refine S22 ?_ | refine S23 ?_ | refine S25 ?_ | refine S26 ?_ | refine S33 ?_ | refine S34 ?_ | refine S47 ?_ | refine S48 ?_ | refine S49 ?_ | refine S51 ?_ | refine S66 ?_ | refine S68 ?_ | refine S88 ?_ | refine S93 ?_)
      refine AW.slp EVx rfl EVx hil (by omega) ?_
      rw [hsl, show (2 * (n : Int)).toNat = D.length by omega]
      repeat (first | refine S0 ?_ | refine S1 ?_ | refine S2 ?_ | refine S3 ?_ | refine S4 ?_ | refine S5 ?_ | refine S6 ?_ | refine S7 ?_ | refine S8 ?_ | refine S10 ?_ | refine S11 ?_ | refine S13 ?_ | refine S15 ?_ | refine S16 ?_ | refine S19 ?_ | refine S20 ?_ | refine S21 ?_ | refine S22 ?_ | refine S23 ?_ | refine S25 ?_ | refine S26 ?_ | refine S33 ?_ | refine S34 ?_ | refine S47 ?_ | refine S48 ?_ | refine S49 ?_ | refine S51 ?_ | refine S66 ?_ | refine S68 ?_ | refine S88 ?_ | refine S93 ?_)
      refine Scall (args := [pint n, pli D]) kcl ?_
      repeat (first | refine S0 ?_ | refine S1 ?_ | refine S2 ?_ | refine S3 ?_ | refine S4 ?_ | refine S5 ?_ | refine S6 ?_ | refine S7 ?_ | refine S8 ?_ | refine S10 ?_ | refine S11 ?_ | refine S13 ?_ | refine S15 ?_ | refine S16 ?_ | refine S19 ?_ | refine S20 ?_ | refine S21 ?_ | refine S22 ?_ | refine S23 ?_ | refine S25 ?_ | refine S26 ?_ | refine S33 ?_ | refine S34 ?_ | refine S47 ?_ | refine S48 ?_ | refine S49 ?_ | refine S51 ?_ | refine S66 ?_ | refine S68 ?_ | refine S88 ?_ | refine S93 ?_)
      rw [show ((clD n D : Nat) : Int) - 1 = ((clD n D - 1 : Nat) : Int) by omega]
      refine Scall (args := [pint (clD n D - 1 : Nat)]) kpw ?_
      repeat (first | refine S0 ?_ | refine S1 ?_ | refine S2 ?_ | refine S3 ?_ | refine S4 ?_ | refine S5 ?_ | refine S6 ?_ | refine S7 ?_ | refine S8 ?_ | refine S10 ?_ | refine S11 ?_ | refine S13 ?_ | refine S15 ?_ | refine S16 ?_ | refine S19 ?_ | refine S20 ?_ | refine S21 ?_ | refine S22 ?_ | refine S23 ?_ | refine S25 ?_ | refine S26 ?_ | refine S33 ?_ | refine S34 ?_ | refine S47 ?_ | refine S48 ?_ | refine S49 ?_ | refine S51 ?_ | refine S66 ?_ | refine S68 ?_ | refine S88 ?_ | refine S93 ?_)
      refine Scall (args := [ppo (poW (col L D)), ppo (poW (F D))]) ktm ?_
      repeat (first | refine S0 ?_ | refine S1 ?_ | refine S2 ?_ | refine S3 ?_ | refine S4 ?_ | refine S5 ?_ | refine S6 ?_ | refine S7 ?_ | refine S8 ?_ | refine S10 ?_ | refine S11 ?_ | refine S13 ?_ | refine S15 ?_ | refine S16 ?_ | refine S19 ?_ | refine S20 ?_ | refine S21 ?_ | refine S22 ?_ | refine S23 ?_ | refine S25 ?_ | refine S26 ?_ | refine S33 ?_ | refine S34 ?_ | refine S47 ?_ | refine S48 ?_ | refine S49 ?_ | refine S51 ?_ | refine S66 ?_ | refine S68 ?_ | refine S88 ?_ | refine S93 ?_)
      refine Scall (args := [ppo (poW (sumE F (visL Ds L pre))), ppo (poW (col L D * F D)), pint 1]) kpl ?_
      repeat (first | refine S0 ?_ | refine S1 ?_ | refine S2 ?_ | refine S3 ?_ | refine S4 ?_ | refine S5 ?_ | refine S6 ?_ | refine S7 ?_ | refine S8 ?_ | refine S10 ?_ | refine S11 ?_ | refine S13 ?_ | refine S15 ?_ | refine S16 ?_ | refine S19 ?_ | refine S20 ?_ | refine S21 ?_ | refine S22 ?_ | refine S23 ?_ | refine S25 ?_ | refine S26 ?_ | refine S33 ?_ | refine S34 ?_ | refine S47 ?_ | refine S48 ?_ | refine S49 ?_ | refine S51 ?_ | refine S66 ?_ | refine S68 ?_ | refine S88 ?_ | refine S93 ?_)
      exact ⟨pre ++ [i], ⟨hnd2, hpl3⟩, SLx, ⟨⟨HBx, HBx⟩, hSi, (by first | omega | (simp only [HP.tokF, HP.tokT, HP.next_add, HP.next_set, HP.next_kill, HP.next_H0, HP.next_addS, HP.next_setS, HP.next_killS, HP.next_put, HP.next_bump, HP.next_putS]; omega)), (by first | omega | (simp only [HP.tokF, HP.tokT, HP.next_add, HP.next_set, HP.next_kill, HP.next_H0, HP.next_addS, HP.next_setS, HP.next_killS, HP.next_put, HP.next_bump, HP.next_putS]; omega))⟩, by rw [List.length_append, List.length_singleton]; omega⟩
end Go.Proofs.Ytdlpbpfcgjgppaa
