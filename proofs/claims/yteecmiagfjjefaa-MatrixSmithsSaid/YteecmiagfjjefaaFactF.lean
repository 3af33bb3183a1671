/- timbref1.Common, Factors. No condition of its own. -/
import Derived.Test.YteecmiagfjjefaaFactPlain
set_option linter.unusedVariables false
set_option linter.unusedSimpArgs false
namespace Go.Proofs.Yteecmiagfjjefaa
open Go.RowKit

set_option maxHeartbeats 2000000 in
set_option maxRecDepth 100000 in
theorem common_s : ∀ (N : Nat) (a b : Int), b.natAbs ≤ N → (-1000000000000000000 ≤ a ∧ a ≤ 1000000000000000000) → (-1000000000000000000 ≤ b ∧ b ≤ 1000000000000000000) → SC Try.prog 29 [pint a, pint b] (pint ((Int.gcd a b : Nat) : Int))
  | N, a, b, hN, ha, hb => by
    by_cases h0 : b = 0
    · subst h0
      refine SC.go {} tok mixed Try.func29 rfl rfl Try.ntmps29 rfl rfl (by kernel_rfl) ?_
      first | simp only [updS] | simp only [updL, Nat.reduceAdd]
      repeat (first | refine S0 ?_ | refine S1 ?_ | refine S2 ?_ | refine S3 ?_ | refine S4 ?_ | refine S5 ?_ | refine S6 ?_ | refine S7 ?_ | refine S8 ?_ | refine S9 ?_ | refine S10 ?_ | refine S11 ?_ | refine S12 ?_ | refine S13 ?_ | refine S14 ?_ | refine S15 ?_ | refine S16 ?_ | refine S17 ?_ ?_ | refine S18 ?_ | refine S19 ?_ | refine S20 ?_ | refine S21 ?_ | refine S22 ?_ | refine S23 ?_ | refine S24 ?_ | refine S25 ?_ | refine S26 ?_ | refine S27 ?_ | refine S28 ?_ | refine S29 ?_ | refine S30 ?_ | refine S31 ?_ | refine S32 ?_ | refine S33 ?_ | refine S34 ?_ | refine S35 ?_ | refine S36 ?_ | refine S37 ?_ | refine S38 ?_ | refine S39 ?_ | refine S40 ?_ | refine S41 ?_ | refine S42 ?_ | refine S43 ?_ | refine S44 ?_ | refine S45 ?_ | refine S46 ?_ | refine S47 ?_ | refine S48 ?_ | refine S49 ?_ | refine S50 ?_ | refine S51 ?_ | refine S52 ?_ | refine S53 ?_ | refine S54 ?_ | refine S55 ?_ | refine S56 ?_ | refine S57 ?_ | refine S58 ?_ | refine S59 ?_ | refine S60 ?_ | refine S61 ?_ | refine S62 ?_ | refine S63 ?_ | refine S64 ?_ | refine S65 ?_ | refine S66 ?_ | refine S67 ?_ | refine S68 ?_ | refine S69 ?_ | refine S70 ?_ | refine S71 ?_ | refine S72 ?_ | refine S73 ?_ | refine S74 ?_ | refine S75 ?_ | refine S76 ?_ | refine S77 ?_ | refine S78 ?_ | refine S79 ?_ | refine S80 ?_ | refine S81 ?_ | refine S82 ?_ | refine S83 ?_ | refine S84 ?_ | refine S85 ?_ | refine S86 ?_ | refine S87 ?_)
      have e : (if a < -a then -a else a) = ((a.natAbs : Nat) : Int) := by split <;> omega
      rw [e, Int.gcd_zero_right]
      exact ⟨.inr rfl, .cl rfl⟩
    · have hm := tmod_bd a b h0
      cases N with
      | zero => omega
      | succ N =>
        have ih := common_s N b (a.tmod b) (by omega) hb (by omega)
        rw [gcd_tmod] at ih
        refine SC.go {} tok mixed Try.func29 rfl rfl Try.ntmps29 rfl rfl (by kernel_rfl) ?_
        first | simp only [updS] | simp only [updL, Nat.reduceAdd]
        repeat (first | refine S0 ?_ | refine S1 ?_ | refine S2 ?_ | refine S3 ?_ | refine S4 ?_ | refine S5 ?_ | refine S6 ?_ | refine S7 ?_ | refine S8 ?_ | refine S9 ?_ | refine S10 ?_ | refine S11 ?_ | refine S12 ?_ | refine S13 ?_ | refine S14 ?_ | refine S15 ?_ | refine S16 ?_ | refine S17 ?_ ?_ | refine S18 ?_ | refine S19 ?_ | refine S20 ?_ | refine S21 ?_ | refine S22 ?_ | refine S23 ?_ | refine S24 ?_ | refine S25 ?_ | refine S26 ?_ | refine S27 ?_ | refine S28 ?_ | refine S29 ?_ | refine S30 ?_ | refine S31 ?_ | refine S32 ?_ | refine S33 ?_ | refine S34 ?_ | refine S35 ?_ | refine S36 ?_ | refine S37 ?_ | refine S38 ?_ | refine S39 ?_ | refine S40 ?_ | refine S41 ?_ | refine S42 ?_ | refine S43 ?_ | refine S44 ?_ | refine S45 ?_ | refine S46 ?_ | refine S47 ?_ | refine S48 ?_ | refine S49 ?_ | refine S50 ?_ | refine S51 ?_ | refine S52 ?_ | refine S53 ?_ | refine S54 ?_ | refine S55 ?_ | refine S56 ?_ | refine S57 ?_ | refine S58 ?_ | refine S59 ?_ | refine S60 ?_ | refine S61 ?_ | refine S62 ?_ | refine S63 ?_ | refine S64 ?_ | refine S65 ?_ | refine S66 ?_ | refine S67 ?_ | refine S68 ?_ | refine S69 ?_ | refine S70 ?_ | refine S71 ?_ | refine S72 ?_ | refine S73 ?_ | refine S74 ?_ | refine S75 ?_ | refine S76 ?_ | refine S77 ?_ | refine S78 ?_ | refine S79 ?_ | refine S80 ?_ | refine S81 ?_ | refine S82 ?_ | refine S83 ?_ | refine S84 ?_ | refine S85 ?_ | refine S86 ?_ | refine S87 ?_)
        refine Scall (args := [pint b, pint (a.tmod b)]) ih ?_
        repeat (first | refine S0 ?_ | refine S1 ?_ | refine S2 ?_ | refine S3 ?_ | refine S4 ?_ | refine S5 ?_ | refine S6 ?_ | refine S7 ?_ | refine S8 ?_ | refine S9 ?_ | refine S10 ?_ | refine S11 ?_ | refine S12 ?_ | refine S13 ?_ | refine S14 ?_ | refine S15 ?_ | refine S16 ?_ | refine S17 ?_ ?_ | refine S18 ?_ | refine S19 ?_ | refine S20 ?_ | refine S21 ?_ | refine S22 ?_ | refine S23 ?_ | refine S24 ?_ | refine S25 ?_ | refine S26 ?_ | refine S27 ?_ | refine S28 ?_ | refine S29 ?_ | refine S30 ?_ | refine S31 ?_ | refine S32 ?_ | refine S33 ?_ | refine S34 ?_ | refine S35 ?_ | refine S36 ?_ | refine S37 ?_ | refine S38 ?_ | refine S39 ?_ | refine S40 ?_ | refine S41 ?_ | refine S42 ?_ | refine S43 ?_ | refine S44 ?_ | refine S45 ?_ | refine S46 ?_ | refine S47 ?_ | refine S48 ?_ | refine S49 ?_ | refine S50 ?_ | refine S51 ?_ | refine S52 ?_ | refine S53 ?_ | refine S54 ?_ | refine S55 ?_ | refine S56 ?_ | refine S57 ?_ | refine S58 ?_ | refine S59 ?_ | refine S60 ?_ | refine S61 ?_ | refine S62 ?_ | refine S63 ?_ | refine S64 ?_ | refine S65 ?_ | refine S66 ?_ | refine S67 ?_ | refine S68 ?_ | refine S69 ?_ | refine S70 ?_ | refine S71 ?_ | refine S72 ?_ | refine S73 ?_ | refine S74 ?_ | refine S75 ?_ | refine S76 ?_ | refine S77 ?_ | refine S78 ?_ | refine S79 ?_ | refine S80 ?_ | refine S81 ?_ | refine S82 ?_ | refine S83 ?_ | refine S84 ?_ | refine S85 ?_ | refine S86 ?_ | refine S87 ?_)
        exact ⟨.inr rfl, .cl rfl⟩
/-- what is in the variable d -/
def valI (m : List (List Int)) (l0 : List Int) (rows : List Nat) (ps : List (List Nat)) : List PV := [pint ((gF (l0 ++ ps.map (mz m rows)) : Nat) : Int)]
theorem getD_mem {l : List Nat} {i : Nat} (h : i < l.length) : l.getD i 0 ∈ l := by
  rw [show l.getD i 0 = l[i] by simp [List.getD, h]]; exact List.getElem_mem h
set_option maxHeartbeats 16000000 in
set_option maxRecDepth 100000 in
theorem fac11_e {m : List (List Int)} {n k q T0 : Nat} {rows : List Nat} {l0 : List Int} (hM : Mx m n k) (hr : Sub n q rows) (hq1 : 1 ≤ q) (hq : q ≤ 6) (hl0 : ∀ x ∈ l0, x.natAbs ≤ 50000000000000000) (hT : T0 % 2 = 1) :
    EachC k q T0 28 [.lptr [pli (pnat rows)], .lptr [plls m], .ptr T0 0] (valI m l0 rows) := by
  intro ps cs h hT2 hb hc
  change h.blk T0 = some [pint ((gF (l0 ++ ps.map (mz m rows)) : Nat) : Int)] at hb
  have hrl : (pnat rows).length = q := by rw [pnat_len]; exact hr.2.2
  have hcl : (pnat cs).length = q := by rw [pnat_len]; exact hc.2.2
  have hn6 := hM.hn
  have hk6 := hM.hk
  have hlen := hM.len
  have hS := mx_subm hM hr hc hq
  have kd := determinant_s hS
  have hdet : lap (ent (subm m rows cs)) (List.range q) (List.range q) = mz m rows cs := by
    have := det_subm (m := m) (hr.2.2.trans hc.2.2.symm)
    rw [hr.2.2] at this
    rw [this]
    unfold mz
    rw [if_pos ⟨by rw [hr.2.2]; exact hq, by rw [hc.2.2]; exact hq⟩]
  rw [hdet] at kd
  have hzb := mz_bd hM rows cs
  have hgb : gF (l0 ++ ps.map (mz m rows)) ≤ 50000000000000000 := gF_bd (fun x hx => by
    rcases List.mem_append.1 hx with h1 | h1
    · exact hl0 x h1
    · obtain ⟨c', _, rfl⟩ := List.mem_map.1 h1
      have := mz_bd hM rows c'; omega)
  have kc := common_s _ (gF (l0 ++ ps.map (mz m rows))) (mz m rows cs) (Nat.le_refl _) (by omega) (by omega)
  have hsn : valI m l0 rows (ps ++ [cs]) = [pint ((Int.gcd (gF (l0 ++ ps.map (mz m rows))) (mz m rows cs) : Nat) : Int)] := by
    unfold valI
    rw [List.map_append, ← List.append_assoc, List.map_cons, List.map_nil, gF_snoc]
  refine SChE.go {} tok mixed Try.func28 rfl rfl Try.ntmps28 rfl rfl (by kernel_rfl) (fun hw => ?_)
  first | simp only [updS] | simp only [updL, Nat.reduceAdd]
  repeat (first | refine S0 ?_ | refine S1 ?_ | refine S2 ?_ | refine S3 ?_ | refine S4 ?_ | refine S5 ?_ | refine S6 ?_ | refine S7 ?_ | refine S8 ?_ | refine S9 ?_ | refine S10 ?_ | refine S11 ?_ | refine S12 ?_ | refine S13 ?_ | refine S14 ?_ | refine S15 ?_ | refine S16 ?_ | refine S17 ?_ ?_ | refine S18 ?_ | refine S19 ?_ | refine S20 ?_ | refine S21 ?_ | refine S22 ?_ | refine S23 ?_ | refine S24 ?_ | refine S25 ?_ | refine S26 ?_ | refine S27 ?_ | refine S28 ?_ | refine S29 ?_ | refine S30 ?_ | refine S31 ?_ | refine S32 ?_ | refine S33 ?_ | refine S34 ?_ | refine S35 ?_ | refine S36 ?_ | refine S37 ?_ | refine S38 ?_ | refine S39 ?_ | refine S40 ?_ | refine S41 ?_ | refine S42 ?_ | refine S43 ?_ | refine S44 ?_ | refine S45 ?_ | refine S46 ?_ | refine S47 ?_ | refine S48 ?_ | refine S49 ?_ | refine S50 ?_ | refine S51 ?_ | refine S52 ?_ | refine S53 ?_ | refine S54 ?_ | refine S55 ?_ | refine S56 ?_ | refine S57 ?_ | refine S58 ?_ | refine S59 ?_ | refine S60 ?_ | refine S61 ?_ | refine S62 ?_ | refine S63 ?_ | refine S64 ?_ | refine S65 ?_ | refine S66 ?_ | refine S67 ?_ | refine S68 ?_ | refine S69 ?_ | refine S70 ?_ | refine S71 ?_ | refine S72 ?_ | refine S73 ?_ | refine S74 ?_ | refine S75 ?_ | refine S76 ?_ | refine S77 ?_ | refine S78 ?_ | refine S79 ?_ | refine S80 ?_ | refine S81 ?_ | refine S82 ?_ | refine S83 ?_ | refine S84 ?_ | refine S85 ?_ | refine S86 ?_ | refine S87 ?_)
  refine CW.own 5 1 rfl ?_
  refine CW.midB (fun to : Nat => to % 2 = 0) (fun to => [(3, .ptr T0 0), (5, .ref to 0 1 q)]) (fun to hp => hp.blk to = some ((subm m rows cs).map pli) ∧ Fr [] h hp ∧ 2 * h.next ≤ to ∧ to < 2 * hp.next) ?_ ?_
  · refine CW.loopS (fun i : Nat × Nat => i.1 ≤ q ∧ i.2 % 2 = 0) (fun i => [(0, pli (pnat cs)), (2, .lptr [plls m]), (3, .ptr T0 0), (5, .ref i.2 0 1 i.1), (11, pli (pnat rows)), (12, pint q), (13, pint i.1)])
      (fun i hp => hp.blk i.2 = some ((subm m (rows.take i.1) cs).map pli) ∧ Fr [] h hp ∧ 2 * h.next ≤ i.2 ∧ i.2 < 2 * hp.next) (fun i => q - i.1) (0, h.tok false) ⟨⟨Nat.zero_le _, HP.tok_even _⟩, by rw [← hrl]; exact SLx, HBx, (Fr.refl _ _).add _ _, (HP.tok_ge _ _).1, (by first | omega | (simp only [HP.tokF, HP.tokT, HP.next_add, HP.next_set, HP.next_kill, HP.next_H0, HP.next_addS, HP.next_setS, HP.next_killS, HP.next_put, HP.next_bump]; omega))⟩ ?_
    rintro ⟨i, to⟩ t hp ⟨hi, ht2⟩ ⟨hB, hfr, hto, htl⟩
    simp only at hi ht2 hB hto htl
    first | simp only [updS] | simp only [updL, Nat.reduceAdd]
    obtain ⟨S, hS1⟩ : ∃ S, S = subm m (rows.take i) cs := ⟨_, rfl⟩
    have hSl : S.length = i := by rw [hS1]; simp [subm]; have := hr.2.2; omega
    rw [← hS1] at hB
    by_cases hi2 : i < q
    · have hv := pnat_get rows i
      have hri : rows.getD i 0 < n := hr.2.1 _ (getD_mem (by have := hr.2.2; omega))
      have hrow := hM.row _ hri
      obtain ⟨v, hv2⟩ : ∃ v, v = (pnat rows).getD i 0 := ⟨_, rfl⟩
      have hv3 : v = ((rows.getD i 0 : Nat) : Int) := by rw [hv2]; exact hv
      have hrow2 : (m.getD v.toNat []).length = k := by rw [hv3, Int.toNat_natCast]; exact hrow
      obtain ⟨row, hrw⟩ : ∃ row, row = cs.map fun c => ent m (rows.getD i 0) c := ⟨_, rfl⟩
      have hrwl : row.length = q := by rw [hrw]; simp [hc.2.2]
      have hSn : S ++ [row] = subm m (rows.take (i + 1)) cs := by
        rw [hS1, hrw]
        unfold subm
        rw [List.take_add_one, List.map_append, List.getElem?_eq_getElem (by have := hr.2.2; omega)]
        simp [List.getD, show i < rows.length by have := hr.2.2; omega]
      repeat (first | refine S0 ?_ | refine S1 ?_ | refine S2 ?_ | refine S3 ?_ | refine S4 ?_ | refine S5 ?_ | refine S6 ?_ | refine S7 ?_ | refine S8 ?_ | refine S9 ?_ | refine S10 ?_ | refine S11 ?_ | refine S12 ?_ | refine S13 ?_ | refine S14 ?_ | refine S15 ?_ | refine S16 ?_ | refine S17 ?_ ?_ | refine S18 ?_ | refine S19 ?_ | refine S20 ?_ | refine S21 ?_ | refine S22 ?_ | refine S23 ?_ | refine S24 ?_ | refine S25 ?_ | refine S26 ?_ | refine S27 ?_ | refine S28 ?_ | refine S29 ?_ | refine S30 ?_ | refine S31 ?_ | refine S32 ?_ | refine S33 ?_ | refine S34 ?_ | refine S35 ?_ | refine S36 ?_ | refine S37 ?_ | refine S38 ?_ | refine S39 ?_ | refine S40 ?_ | refine S41 ?_ | refine S42 ?_ | refine S43 ?_ | refine S44 ?_ | refine S45 ?_ | refine S46 ?_ | refine S47 ?_ | refine S48 ?_ | refine S49 ?_ | refine S50 ?_ | refine S51 ?_ | refine S52 ?_ | refine S53 ?_ | refine S54 ?_ | refine S55 ?_ | refine S56 ?_ | refine S57 ?_ | refine S58 ?_ | refine S59 ?_ | refine S60 ?_ | refine S61 ?_ | refine S62 ?_ | refine S63 ?_ | refine S64 ?_ | refine S65 ?_ | refine S66 ?_ | refine S67 ?_ | refine S68 ?_ | refine S69 ?_ | refine S70 ?_ | refine S71 ?_ | refine S72 ?_ | refine S73 ?_ | refine S74 ?_ | refine S75 ?_ | refine S76 ?_ | refine S77 ?_ | refine S78 ?_ | refine S79 ?_ | refine S80 ?_ | refine S81 ?_ | refine S82 ?_ | refine S83 ?_ | refine S84 ?_ | refine S85 ?_ | refine S86 ?_ | refine S87 ?_)
      rw [← hv2]
      refine CW.own 8 1 rfl ?_
      refine CW.loopS (fun j : Nat × Nat => j.1 ≤ q ∧ j.2 % 2 = 0 ∧ j.2 ≠ to ∧ 2 * h.next ≤ j.2) (fun j => [(0, pli (pnat cs)), (2, .lptr [plls m]), (3, .ptr T0 0), (5, .ref to 0 1 i), (7, pint v), (8, .ref j.2 0 1 j.1), (11, pli (pnat rows)), (12, pint q), (13, pint i), (17, pli (pnat cs)), (18, pint q), (19, pint j.1)])
        (fun j hp => hp.blk j.2 = some (ints (row.take j.1)) ∧ hp.blk to = some (S.map pli) ∧ Fr [] h hp ∧ to < 2 * hp.next ∧ j.2 < 2 * hp.next) (fun j => q - j.1) (0, hp.tok false) ⟨⟨Nat.zero_le _, HP.tok_even _, by have := hp.tok_ge false; simp only; omega, by have := hp.tok_ge false; have := hfr.next; simp only; omega⟩, by rw [← hcl]; exact SLx, HBx, HBx, hfr.add _ _, (by first | omega | (simp only [HP.tokF, HP.tokT, HP.next_add, HP.next_set, HP.next_kill, HP.next_H0, HP.next_addS, HP.next_setS, HP.next_killS, HP.next_put, HP.next_bump]; omega)), (by first | omega | (simp only [HP.tokF, HP.tokT, HP.next_add, HP.next_set, HP.next_kill, HP.next_H0, HP.next_addS, HP.next_setS, HP.next_killS, HP.next_put, HP.next_bump]; omega))⟩ ?_
      clear hB hfr htl hp t
      rintro ⟨j, tr⟩ t hp ⟨hj, hj2, hjn, hjh⟩ ⟨hB1, hB, hfr, htl, htl2⟩
      simp only at hj hj2 hjn hjh hB1 hB htl htl2
      first | simp only [updS] | simp only [updL, Nat.reduceAdd]
      by_cases hj3 : j < q
      · have hcv := pnat_get cs j
        have hci : cs.getD j 0 < k := hc.2.1 _ (getD_mem (by have := hc.2.2; omega))
        have hen : (m.getD v.toNat []).getD ((pnat cs).getD j 0).toNat 0 = ent m (rows.getD i 0) (cs.getD j 0) := by rw [hv3, hcv]; rfl
        have hzl : (row.take j).length = j := by simp; omega
        have e : row.take j ++ [ent m (rows.getD i 0) (cs.getD j 0)] = row.take (j + 1) := by
          rw [List.take_add_one, List.getElem?_eq_getElem (show j < row.length by omega)]
          subst hrw
          simp [List.getD, show j < cs.length by have := hc.2.2; omega]
        generalize row.take j = zs at *
        repeat (first | refine S0 ?_ | refine S1 ?_ | refine S2 ?_ | refine S3 ?_ | refine S4 ?_ | refine S5 ?_ | refine S6 ?_ | refine S7 ?_ | refine S8 ?_ | refine S9 ?_ | refine S10 ?_ | refine S11 ?_ | refine S12 ?_ | refine S13 ?_ | refine S14 ?_ | refine S15 ?_ | refine S16 ?_ | refine S17 ?_ ?_ | refine S18 ?_ | refine S19 ?_ | refine S20 ?_ | refine S21 ?_ | refine S22 ?_ | refine S23 ?_ | refine S24 ?_ | refine S25 ?_ | refine S26 ?_ | refine S27 ?_ | refine S28 ?_ | refine S29 ?_ | refine S30 ?_ | refine S31 ?_ | refine S32 ?_ | refine S33 ?_ | refine S34 ?_ | refine S35 ?_ | refine S36 ?_ | refine S37 ?_ | refine S38 ?_ | refine S39 ?_ | refine S40 ?_ | refine S41 ?_ | refine S42 ?_ | refine S43 ?_ | refine S44 ?_ | refine S45 ?_ | refine S46 ?_ | refine S47 ?_ | refine S48 ?_ | refine S49 ?_ | refine S50 ?_ | refine S51 ?_ | refine S52 ?_ | refine S53 ?_ | refine S54 ?_ | refine S55 ?_ | refine S56 ?_ | refine S57 ?_ | refine S58 ?_ | refine S59 ?_ | refine S60 ?_ | refine S61 ?_ | refine S62 ?_ | refine S63 ?_ | refine S64 ?_ | refine S65 ?_ | refine S66 ?_ | refine S67 ?_ | refine S68 ?_ | refine S69 ?_ | refine S70 ?_ | refine S71 ?_ | refine S72 ?_ | refine S73 ?_ | refine S74 ?_ | refine S75 ?_ | refine S76 ?_ | refine S77 ?_ | refine S78 ?_ | refine S79 ?_ | refine S80 ?_ | refine S81 ?_ | refine S82 ?_ | refine S83 ?_ | refine S84 ?_ | refine S85 ?_ | refine S86 ?_ | refine S87 ?_)
        rw [hen] at *
        rw [e]
        have k1 := hp.tok_ge false
        have k2 := hfr.next
        exact ⟨(j + 1, hp.tok false), ⟨hj3, HP.tok_even _, by simp only; omega, by simp only; omega⟩, SLx, ⟨HBx, HBx, (hfr.kill (.inr hjh)).add _ _, (by first | omega | (simp only [HP.tokF, HP.tokT, HP.next_add, HP.next_set, HP.next_kill, HP.next_H0, HP.next_addS, HP.next_setS, HP.next_killS, HP.next_put, HP.next_bump]; omega)), (by first | omega | (simp only [HP.tokF, HP.tokT, HP.next_add, HP.next_set, HP.next_kill, HP.next_H0, HP.next_addS, HP.next_setS, HP.next_killS, HP.next_put, HP.next_bump]; omega))⟩, by simp only; omega⟩
      · obtain rfl : j = q := by omega
        rw [List.take_of_length_le (by omega)] at hB1
        refine CW.freeze 8 (m := j) (v := pli row) rfl HBx (by simp; omega) (by rw [← hrwl]; simp [ints_take, pli]) ?_
        repeat (first | refine S0 ?_ | refine S1 ?_ | refine S2 ?_ | refine S3 ?_ | refine S4 ?_ | refine S5 ?_ | refine S6 ?_ | refine S7 ?_ | refine S8 ?_ | refine S9 ?_ | refine S10 ?_ | refine S11 ?_ | refine S12 ?_ | refine S13 ?_ | refine S14 ?_ | refine S15 ?_ | refine S16 ?_ | refine S17 ?_ ?_ | refine S18 ?_ | refine S19 ?_ | refine S20 ?_ | refine S21 ?_ | refine S22 ?_ | refine S23 ?_ | refine S24 ?_ | refine S25 ?_ | refine S26 ?_ | refine S27 ?_ | refine S28 ?_ | refine S29 ?_ | refine S30 ?_ | refine S31 ?_ | refine S32 ?_ | refine S33 ?_ | refine S34 ?_ | refine S35 ?_ | refine S36 ?_ | refine S37 ?_ | refine S38 ?_ | refine S39 ?_ | refine S40 ?_ | refine S41 ?_ | refine S42 ?_ | refine S43 ?_ | refine S44 ?_ | refine S45 ?_ | refine S46 ?_ | refine S47 ?_ | refine S48 ?_ | refine S49 ?_ | refine S50 ?_ | refine S51 ?_ | refine S52 ?_ | refine S53 ?_ | refine S54 ?_ | refine S55 ?_ | refine S56 ?_ | refine S57 ?_ | refine S58 ?_ | refine S59 ?_ | refine S60 ?_ | refine S61 ?_ | refine S62 ?_ | refine S63 ?_ | refine S64 ?_ | refine S65 ?_ | refine S66 ?_ | refine S67 ?_ | refine S68 ?_ | refine S69 ?_ | refine S70 ?_ | refine S71 ?_ | refine S72 ?_ | refine S73 ?_ | refine S74 ?_ | refine S75 ?_ | refine S76 ?_ | refine S77 ?_ | refine S78 ?_ | refine S79 ?_ | refine S80 ?_ | refine S81 ?_ | refine S82 ?_ | refine S83 ?_ | refine S84 ?_ | refine S85 ?_ | refine S86 ?_ | refine S87 ?_)
        rw [hSn]
        have k1 := hp.tok_ge false
        have k2 := hfr.next
        exact ⟨(i + 1, hp.tok false), ⟨by simp only; omega, HP.tok_even _⟩, SLx, ⟨HBx, ((hfr.kill (.inr hjh)).kill (.inr hto)).add _ _, by simp only; omega, (by first | omega | (simp only [HP.tokF, HP.tokT, HP.next_add, HP.next_set, HP.next_kill, HP.next_H0, HP.next_addS, HP.next_setS, HP.next_killS, HP.next_put, HP.next_bump]; omega))⟩, by simp only; omega⟩
    · obtain rfl : i = q := by omega
      repeat (first | refine S0 ?_ | refine S1 ?_ | refine S2 ?_ | refine S3 ?_ | refine S4 ?_ | refine S5 ?_ | refine S6 ?_ | refine S7 ?_ | refine S8 ?_ | refine S9 ?_ | refine S10 ?_ | refine S11 ?_ | refine S12 ?_ | refine S13 ?_ | refine S14 ?_ | refine S15 ?_ | refine S16 ?_ | refine S17 ?_ ?_ | refine S18 ?_ | refine S19 ?_ | refine S20 ?_ | refine S21 ?_ | refine S22 ?_ | refine S23 ?_ | refine S24 ?_ | refine S25 ?_ | refine S26 ?_ | refine S27 ?_ | refine S28 ?_ | refine S29 ?_ | refine S30 ?_ | refine S31 ?_ | refine S32 ?_ | refine S33 ?_ | refine S34 ?_ | refine S35 ?_ | refine S36 ?_ | refine S37 ?_ | refine S38 ?_ | refine S39 ?_ | refine S40 ?_ | refine S41 ?_ | refine S42 ?_ | refine S43 ?_ | refine S44 ?_ | refine S45 ?_ | refine S46 ?_ | refine S47 ?_ | refine S48 ?_ | refine S49 ?_ | refine S50 ?_ | refine S51 ?_ | refine S52 ?_ | refine S53 ?_ | refine S54 ?_ | refine S55 ?_ | refine S56 ?_ | refine S57 ?_ | refine S58 ?_ | refine S59 ?_ | refine S60 ?_ | refine S61 ?_ | refine S62 ?_ | refine S63 ?_ | refine S64 ?_ | refine S65 ?_ | refine S66 ?_ | refine S67 ?_ | refine S68 ?_ | refine S69 ?_ | refine S70 ?_ | refine S71 ?_ | refine S72 ?_ | refine S73 ?_ | refine S74 ?_ | refine S75 ?_ | refine S76 ?_ | refine S77 ?_ | refine S78 ?_ | refine S79 ?_ | refine S80 ?_ | refine S81 ?_ | refine S82 ?_ | refine S83 ?_ | refine S84 ?_ | refine S85 ?_ | refine S86 ?_ | refine S87 ?_)
      refine ⟨to, ht2, SLx, ?_, hfr, hto, htl⟩
      rw [hS1, List.take_of_length_le (by have := hr.2.2; omega)] at hB
      exact hB
  · rintro to t hp ht2 ⟨hB, hfr, hto, htl⟩
    first | simp only [updS] | simp only [updL, Nat.reduceAdd]
    have hSl : (subm m rows cs).length = q := by simp [subm, hr.2.2]
    refine CW.freeze 5 (m := q) (v := plls (subm m rows cs)) rfl HBx (by simp; omega) (by unfold plls; rw [hSl, List.drop_zero, Nat.mul_one, List.take_of_length_le (by simp; omega)]) ?_
    have hbT : hp.blk T0 = some [pint ((gF (l0 ++ ps.map (mz m rows)) : Nat) : Int)] := hfr.get hT2 (by simp) hb
    repeat (first | refine S0 ?_ | refine S1 ?_ | refine S2 ?_ | refine S3 ?_ | refine S4 ?_ | refine S5 ?_ | refine S6 ?_ | refine S7 ?_ | refine S8 ?_ | refine S9 ?_ | refine S10 ?_ | refine S11 ?_ | refine S12 ?_ | refine S13 ?_ | refine S14 ?_ | refine S15 ?_ | refine S16 ?_ | refine S17 ?_ ?_ | refine S18 ?_ | refine S19 ?_ | refine S20 ?_ | refine S21 ?_ | refine S22 ?_ | refine S23 ?_ | refine S24 ?_ | refine S25 ?_ | refine S26 ?_ | refine S27 ?_ | refine S28 ?_ | refine S29 ?_ | refine S30 ?_ | refine S31 ?_ | refine S32 ?_ | refine S33 ?_ | refine S34 ?_ | refine S35 ?_ | refine S36 ?_ | refine S37 ?_ | refine S38 ?_ | refine S39 ?_ | refine S40 ?_ | refine S41 ?_ | refine S42 ?_ | refine S43 ?_ | refine S44 ?_ | refine S45 ?_ | refine S46 ?_ | refine S47 ?_ | refine S48 ?_ | refine S49 ?_ | refine S50 ?_ | refine S51 ?_ | refine S52 ?_ | refine S53 ?_ | refine S54 ?_ | refine S55 ?_ | refine S56 ?_ | refine S57 ?_ | refine S58 ?_ | refine S59 ?_ | refine S60 ?_ | refine S61 ?_ | refine S62 ?_ | refine S63 ?_ | refine S64 ?_ | refine S65 ?_ | refine S66 ?_ | refine S67 ?_ | refine S68 ?_ | refine S69 ?_ | refine S70 ?_ | refine S71 ?_ | refine S72 ?_ | refine S73 ?_ | refine S74 ?_ | refine S75 ?_ | refine S76 ?_ | refine S77 ?_ | refine S78 ?_ | refine S79 ?_ | refine S80 ?_ | refine S81 ?_ | refine S82 ?_ | refine S83 ?_ | refine S84 ?_ | refine S85 ?_ | refine S86 ?_ | refine S87 ?_)
    refine Scall (args := [plls (subm m rows cs)]) kd ?_
    repeat (first | refine S0 ?_ | refine S1 ?_ | refine S2 ?_ | refine S3 ?_ | refine S4 ?_ | refine S5 ?_ | refine S6 ?_ | refine S7 ?_ | refine S8 ?_ | refine S9 ?_ | refine S10 ?_ | refine S11 ?_ | refine S12 ?_ | refine S13 ?_ | refine S14 ?_ | refine S15 ?_ | refine S16 ?_ | refine S17 ?_ ?_ | refine S18 ?_ | refine S19 ?_ | refine S20 ?_ | refine S21 ?_ | refine S22 ?_ | refine S23 ?_ | refine S24 ?_ | refine S25 ?_ | refine S26 ?_ | refine S27 ?_ | refine S28 ?_ | refine S29 ?_ | refine S30 ?_ | refine S31 ?_ | refine S32 ?_ | refine S33 ?_ | refine S34 ?_ | refine S35 ?_ | refine S36 ?_ | refine S37 ?_ | refine S38 ?_ | refine S39 ?_ | refine S40 ?_ | refine S41 ?_ | refine S42 ?_ | refine S43 ?_ | refine S44 ?_ | refine S45 ?_ | refine S46 ?_ | refine S47 ?_ | refine S48 ?_ | refine S49 ?_ | refine S50 ?_ | refine S51 ?_ | refine S52 ?_ | refine S53 ?_ | refine S54 ?_ | refine S55 ?_ | refine S56 ?_ | refine S57 ?_ | refine S58 ?_ | refine S59 ?_ | refine S60 ?_ | refine S61 ?_ | refine S62 ?_ | refine S63 ?_ | refine S64 ?_ | refine S65 ?_ | refine S66 ?_ | refine S67 ?_ | refine S68 ?_ | refine S69 ?_ | refine S70 ?_ | refine S71 ?_ | refine S72 ?_ | refine S73 ?_ | refine S74 ?_ | refine S75 ?_ | refine S76 ?_ | refine S77 ?_ | refine S78 ?_ | refine S79 ?_ | refine S80 ?_ | refine S81 ?_ | refine S82 ?_ | refine S83 ?_ | refine S84 ?_ | refine S85 ?_ | refine S86 ?_ | refine S87 ?_)
    refine Scall (args := [pint ((gF (l0 ++ ps.map (mz m rows)) : Nat) : Int), pint (mz m rows cs)]) kc ?_
    repeat (first | refine S0 ?_ | refine S1 ?_ | refine S2 ?_ | refine S3 ?_ | refine S4 ?_ | refine S5 ?_ | refine S6 ?_ | refine S7 ?_ | refine S8 ?_ | refine S9 ?_ | refine S10 ?_ | refine S11 ?_ | refine S12 ?_ | refine S13 ?_ | refine S14 ?_ | refine S15 ?_ | refine S16 ?_ | refine S17 ?_ ?_ | refine S18 ?_ | refine S19 ?_ | refine S20 ?_ | refine S21 ?_ | refine S22 ?_ | refine S23 ?_ | refine S24 ?_ | refine S25 ?_ | refine S26 ?_ | refine S27 ?_ | refine S28 ?_ | refine S29 ?_ | refine S30 ?_ | refine S31 ?_ | refine S32 ?_ | refine S33 ?_ | refine S34 ?_ | refine S35 ?_ | refine S36 ?_ | refine S37 ?_ | refine S38 ?_ | refine S39 ?_ | refine S40 ?_ | refine S41 ?_ | refine S42 ?_ | refine S43 ?_ | refine S44 ?_ | refine S45 ?_ | refine S46 ?_ | refine S47 ?_ | refine S48 ?_ | refine S49 ?_ | refine S50 ?_ | refine S51 ?_ | refine S52 ?_ | refine S53 ?_ | refine S54 ?_ | refine S55 ?_ | refine S56 ?_ | refine S57 ?_ | refine S58 ?_ | refine S59 ?_ | refine S60 ?_ | refine S61 ?_ | refine S62 ?_ | refine S63 ?_ | refine S64 ?_ | refine S65 ?_ | refine S66 ?_ | refine S67 ?_ | refine S68 ?_ | refine S69 ?_ | refine S70 ?_ | refine S71 ?_ | refine S72 ?_ | refine S73 ?_ | refine S74 ?_ | refine S75 ?_ | refine S76 ?_ | refine S77 ?_ | refine S78 ?_ | refine S79 ?_ | refine S80 ?_ | refine S81 ?_ | refine S82 ?_ | refine S83 ?_ | refine S84 ?_ | refine S85 ?_ | refine S86 ?_ | refine S87 ?_)
    exact ⟨.inl rfl, _, rfl, by rw [hsn]; exact HBx, (((Fr.refl [T0] h).trans (Y := []) hfr (by simp)).kill (.inr hto)).set _ (.inl (by simp))⟩
end Go.Proofs.Yteecmiagfjjefaa
