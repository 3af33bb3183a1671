/- coloring.propagate and timbref1.Colored. No condition of its own. -/
import Derived.Test.YtgjfpmjllpgadaaGColorCountsBJ
import Derived.Test.YtgjfpmjllpgadaaGColorCountsBM
import Derived.Test.YtgjfpmjllpgadaaGColorCountsBN
set_option linter.unusedVariables false
set_option linter.unusedSimpArgs false
namespace Go.Proofs.Ytgjfpmjllpgadaa
open Go.RowKit

theorem abs_nat (x : Int) : absI x = (x.natAbs : Int) := by unfold absI; split <;> omega
theorem tmod_add_q {a q : Int} (hq : 1 ≤ q) (h : -q ≤ a) : (a + q) % q = a % q := Int.add_emod_right _ _
theorem tmod_tmod_q {a q : Int} (hq : 1 ≤ q) : (a.tmod q + q) % q = a % q := by
  have h1 := Int.lt_tmod_of_pos a (show 0 < q by omega)
  rw [Int.add_emod_right]
  have : q ∣ a - a.tmod q := ⟨a.tdiv q, by have := Int.tmod_add_mul_tdiv a q; omega⟩
  exact (Int.emod_emod_of_dvd a (Int.dvd_refl q) ▸ (Int.emod_eq_emod_iff_emod_sub_eq_zero.2 (Int.emod_eq_zero_of_dvd this)).symm)
theorem Wd.wok {n : Nat} {w : List Int} (h : Wd n w) : WordOk n w := fun x hx => by
  obtain ⟨i, hi, rfl⟩ := List.getElem_of_mem hx
  have := h.lt i hi
  rw [getD_lt 0 hi] at this
  obtain ⟨h1, h2, h3⟩ := this
  omega
theorem take_snoc {w : List Int} {i : Nat} (h : i < w.length) : w.take (i + 1) = w.take i ++ [w.getD i 0] := by
  rw [List.take_add_one, List.getElem?_eq_getElem h]
  simp [List.getD, h]
theorem WordOk.take {n : Nat} {w : List Int} (h : WordOk n w) (i : Nat) : WordOk n (w.take i) := fun x hx => h x (List.mem_of_mem_take hx)
set_option maxHeartbeats 16000000 in
set_option maxRecDepth 100000 in
theorem propagate_o {n : Nat} {q : Int} {w c : List Int} (hn : n ≤ 6) (hl : w.length ≤ 30) (hw : WordOk n w) (hq : 1 ≤ q ∧ q ≤ 13) (hc : Cols n q c) : SCo Try.prog 83 [pli w, pli c, pint q] 1 n (ints (colW q w c)) := by
  have hcl := hc.1
  refine SCo.go { wc := [14] } tok mixed Try.func83 rfl rfl Try.ntmps83 rfl rfl (by kernel_rfl) ?_
  first | simp only [updS] | simp only [updL, Nat.reduceAdd]
  repeat (first | refine S0 ?_ | refine S1 ?_ | refine S2 ?_ | refine S3 ?_ | refine S4 ?_ | refine S5 ?_ | refine S6 ?_ | refine S7 ?_ | refine S8 ?_ | refine S10 ?_ | refine S11 ?_ | refine S13 ?_ | refine S15 ?_ | refine S16 ?_ | refine S19 ?_ | refine S20 ?_ | refine S21 ?_ | refine S22 ?_ | refine S23 ?_ | refine S25 ?_ | refine S26 ?_ | refine S27 ?_ | refine S30 ?_ | refine S33 ?_ | refine S46 ?_ | refine S51 ?_ | refine S53 ?_ | refine S65 ?_ | refine S76 ?_)
  refine Scallo (args := [pli c]) (clone_o c (by omega)) ?_
  repeat (first | refine S0 ?_ | refine S1 ?_ | refine S2 ?_ | refine S3 ?_ | refine S4 ?_ | refine S5 ?_ | refine S6 ?_ | refine S7 ?_ | refine S8 ?_ | refine S10 ?_ | refine S11 ?_ | refine S13 ?_ | refine S15 ?_ | refine S16 ?_ | refine S19 ?_ | refine S20 ?_ | refine S21 ?_ | refine S22 ?_ | refine S23 ?_ | refine S25 ?_ | refine S26 ?_ | refine S27 ?_ | refine S30 ?_ | refine S33 ?_ | refine S46 ?_ | refine S51 ?_ | refine S53 ?_ | refine S65 ?_ | refine S76 ?_)
  refine CW.loopS (fun i : Nat => i ≤ w.length) (fun i => [(0, pli w), (2, pint q), (7, .ref 0 0 1 n), (15, pli w), (16, pint w.length), (17, pint i)]) (fun i hp => hp.blk 0 = some (ints (colW q (w.take i) c)) ∧ 1 ≤ hp.next) (fun i => w.length - i) 0 ⟨Nat.zero_le _, by rw [← hcl]; exact SLx, HBx, (by first | omega | (simp only [HP.tokF, HP.tokT, HP.next_add, HP.next_set, HP.next_kill, HP.next_H0, HP.next_addS, HP.next_setS, HP.next_killS, HP.next_put, HP.next_bump, HP.next_putS]; omega))⟩ ?_
  rintro i t hp hi ⟨hB, hnx⟩
  first | simp only [updS] | simp only [updL, Nat.reduceAdd]
  by_cases hi2 : i < w.length
  · obtain ⟨x, hx⟩ : ∃ x, x = w.getD i 0 := ⟨_, rfl⟩
    have hmem : x ∈ w := by rw [hx, getD_lt 0 hi2]; exact List.getElem_mem hi2
    have hxa := hw x hmem
    obtain ⟨m, hm⟩ : ∃ m, m = x.natAbs := ⟨_, rfl⟩
    have hstep : colW q (w.take (i + 1)) c = stepC q (colW q (w.take i) c) x := by rw [take_snoc hi2, colW_snoc, hx]
    have hC := colW_cols hq.1 (w.take i) c (hw.take i) hc
    obtain ⟨hCl, hCb⟩ := hC
    have ha := hCb (m - 1) (by omega)
    have hb := hCb m (by omega)
    unfold stepC at hstep
    rw [← hm] at hstep
    generalize colW q (w.take i) c = C at *
    have e1 := tmod_add_q (a := 2 * C.getD (m - 1) 0 - C.getD m 0) hq.1 (by omega)
    have e2 := tmod_add_q (a := 2 * C.getD m 0 - C.getD (m - 1) 0) hq.1 (by omega)
    have em : ((m : Int) - 1).toNat = m - 1 := by omega
    repeat (first | refine S0 ?_ | refine S1 ?_ | refine S2 ?_ | refine S3 ?_ | refine S4 ?_ | refine S5 ?_ | refine S6 ?_ | refine S7 ?_ | refine S8 ?_ | refine S10 ?_ | refine S11 ?_ | refine S13 ?_ | refine S15 ?_ | refine S16 ?_ | refine S19 ?_ | refine S20 ?_ | refine S21 ?_ | refine S22 ?_ | refine S23 ?_ | refine S25 ?_ | refine S26 ?_ | refine S27 ?_ | refine S30 ?_ | refine S33 ?_ | refine S46 ?_ | refine S51 ?_ | refine S53 ?_ | refine S65 ?_ | refine S76 ?_)
    rw [← hx]
    repeat (first | refine S0 ?_ | refine S1 ?_ | refine S2 ?_ | refine S3 ?_ | refine S4 ?_ | refine S5 ?_ | refine S6 ?_ | refine S7 ?_ | refine S8 ?_ | refine S10 ?_ | refine S11 ?_ | refine S13 ?_ | refine S15 ?_ | refine S16 ?_ | refine S19 ?_ | refine S20 ?_ | refine S21 ?_ | refine S22 ?_ | refine S23 ?_ | refine S25 ?_ | refine S26 ?_ | refine S27 ?_ | refine S30 ?_ | refine S33 ?_ | refine S46 ?_ | refine S51 ?_ | refine S53 ?_ | refine S65 ?_ | refine S76 ?_)
    refine Scall (args := [pint x]) (bindex_s x (by omega)) ?_
    rw [abs_nat, ← hm]
    repeat (first | refine S0 ?_ | refine S1 ?_ | refine S2 ?_ | refine S3 ?_ | refine S4 ?_ | refine S5 ?_ | refine S6 ?_ | refine S7 ?_ | refine S8 ?_ | refine S10 ?_ | refine S11 ?_ | refine S13 ?_ | refine S15 ?_ | refine S16 ?_ | refine S19 ?_ | refine S20 ?_ | refine S21 ?_ | refine S22 ?_ | refine S23 ?_ | refine S25 ?_ | refine S26 ?_ | refine S27 ?_ | refine S30 ?_ | refine S33 ?_ | refine S46 ?_ | refine S51 ?_ | refine S53 ?_ | refine S65 ?_ | refine S76 ?_)
    rw [em]
    repeat (first | refine S0 ?_ | refine S1 ?_ | refine S2 ?_ | refine S3 ?_ | refine S4 ?_ | refine S5 ?_ | refine S6 ?_ | refine S7 ?_ | refine S8 ?_ | refine S10 ?_ | refine S11 ?_ | refine S13 ?_ | refine S15 ?_ | refine S16 ?_ | refine S19 ?_ | refine S20 ?_ | refine S21 ?_ | refine S22 ?_ | refine S23 ?_ | refine S25 ?_ | refine S26 ?_ | refine S27 ?_ | refine S30 ?_ | refine S33 ?_ | refine S46 ?_ | refine S51 ?_ | refine S53 ?_ | refine S65 ?_ | refine S76 ?_)
    by_cases hs : 0 < x
    · rw [if_pos hs] at hstep
      repeat (first | refine S0 ?_ | refine S1 ?_ | refine S2 ?_ | refine S3 ?_ | refine S4 ?_ | refine S5 ?_ | refine S6 ?_ | refine S7 ?_ | refine S8 ?_ | refine S10 ?_ | refine S11 ?_ | refine S13 ?_ | refine S15 ?_ | refine S16 ?_ | refine S19 ?_ | refine S20 ?_ | refine S21 ?_ | refine S22 ?_ | refine S23 ?_ | refine S25 ?_ | refine S26 ?_ | refine S27 ?_ | refine S30 ?_ | refine S33 ?_ | refine S46 ?_ | refine S51 ?_ | refine S53 ?_ | refine S65 ?_ | refine S76 ?_)
      rw [em, e1]
      exact ⟨i + 1, hi2, SLx, ⟨by rw [hstep]; exact HBx, (by first | omega | (simp only [HP.tokF, HP.tokT, HP.next_add, HP.next_set, HP.next_kill, HP.next_H0, HP.next_addS, HP.next_setS, HP.next_killS, HP.next_put, HP.next_bump, HP.next_putS]; omega))⟩, by omega⟩
    · rw [if_neg hs] at hstep
      repeat (first | refine S0 ?_ | refine S1 ?_ | refine S2 ?_ | refine S3 ?_ | refine S4 ?_ | refine S5 ?_ | refine S6 ?_ | refine S7 ?_ | refine S8 ?_ | refine S10 ?_ | refine S11 ?_ | refine S13 ?_ | refine S15 ?_ | refine S16 ?_ | refine S19 ?_ | refine S20 ?_ | refine S21 ?_ | refine S22 ?_ | refine S23 ?_ | refine S25 ?_ | refine S26 ?_ | refine S27 ?_ | refine S30 ?_ | refine S33 ?_ | refine S46 ?_ | refine S51 ?_ | refine S53 ?_ | refine S65 ?_ | refine S76 ?_)
      rw [em, e2]
      exact ⟨i + 1, hi2, SLx, ⟨by rw [hstep]; exact HBx, (by first | omega | (simp only [HP.tokF, HP.tokT, HP.next_add, HP.next_set, HP.next_kill, HP.next_H0, HP.next_addS, HP.next_setS, HP.next_killS, HP.next_put, HP.next_bump, HP.next_putS]; omega))⟩, by omega⟩
  · obtain rfl : i = w.length := by omega
    rw [List.take_length] at hB
    have hlen : (colW q w c).length = n := by rw [colW_len, hcl]
    have e := Ow.ints (h := hp) (t := 0) (k := n) (zs := colW q w c) (ys := colW q w c) hB hlen.symm rfl
    rw [hlen] at e
    repeat (first | refine S0 ?_ | refine S1 ?_ | refine S2 ?_ | refine S3 ?_ | refine S4 ?_ | refine S5 ?_ | refine S6 ?_ | refine S7 ?_ | refine S8 ?_ | refine S10 ?_ | refine S11 ?_ | refine S13 ?_ | refine S15 ?_ | refine S16 ?_ | refine S19 ?_ | refine S20 ?_ | refine S21 ?_ | refine S22 ?_ | refine S23 ?_ | refine S25 ?_ | refine S26 ?_ | refine S27 ?_ | refine S30 ?_ | refine S33 ?_ | refine S46 ?_ | refine S51 ?_ | refine S53 ?_ | refine S65 ?_ | refine S76 ?_)
    exact ⟨.inr rfl, e⟩
set_option maxHeartbeats 16000000 in
set_option maxRecDepth 100000 in
theorem colored_o {n : Nat} {q : Int} {w c : List Int} (hn : n ≤ 6) (hl : w.length ≤ 30) (hw : WordOk n w) (hq : 1 ≤ q ∧ q ≤ 13) (hc : Cols n q c) : SCo Try.prog 43 [pli w, pli c, pint q] 1 n (ints (colW q w c)) := by
  have hcl := hc.1
  refine SCo.go { wc := [13] } tok mixed Try.func43 rfl rfl Try.ntmps43 rfl rfl (by kernel_rfl) ?_
  first | simp only [updS] | simp only [updL, Nat.reduceAdd]
  repeat (first | refine S0 ?_ | refine S1 ?_ | refine S2 ?_ | refine S3 ?_ | refine S4 ?_ | refine S5 ?_ | refine S6 ?_ | refine S7 ?_ | refine S8 ?_ | refine S10 ?_ | refine S11 ?_ | refine S13 ?_ | refine S15 ?_ | refine S16 ?_ | refine S19 ?_ | refine S20 ?_ | refine S21 ?_ | refine S22 ?_ | refine S23 ?_ | refine S25 ?_ | refine S26 ?_ | refine S27 ?_ | refine S30 ?_ | refine S33 ?_ | refine S46 ?_ | refine S51 ?_ | refine S53 ?_ | refine S65 ?_ | refine S76 ?_)
  refine Scallo (args := [pli c]) (clone_o c (by omega)) ?_
  repeat (first | refine S0 ?_ | refine S1 ?_ | refine S2 ?_ | refine S3 ?_ | refine S4 ?_ | refine S5 ?_ | refine S6 ?_ | refine S7 ?_ | refine S8 ?_ | refine S10 ?_ | refine S11 ?_ | refine S13 ?_ | refine S15 ?_ | refine S16 ?_ | refine S19 ?_ | refine S20 ?_ | refine S21 ?_ | refine S22 ?_ | refine S23 ?_ | refine S25 ?_ | refine S26 ?_ | refine S27 ?_ | refine S30 ?_ | refine S33 ?_ | refine S46 ?_ | refine S51 ?_ | refine S53 ?_ | refine S65 ?_ | refine S76 ?_)
  refine CW.loopS (fun i : Nat => i ≤ w.length) (fun i => [(0, pli w), (2, pint q), (1, .ref 0 0 1 n), (14, pli w), (15, pint w.length), (16, pint i)]) (fun i hp => hp.blk 0 = some (ints (colW q (w.take i) c)) ∧ 1 ≤ hp.next) (fun i => w.length - i) 0 ⟨Nat.zero_le _, by rw [← hcl]; exact SLx, HBx, (by first | omega | (simp only [HP.tokF, HP.tokT, HP.next_add, HP.next_set, HP.next_kill, HP.next_H0, HP.next_addS, HP.next_setS, HP.next_killS, HP.next_put, HP.next_bump, HP.next_putS]; omega))⟩ ?_
  rintro i t hp hi ⟨hB, hnx⟩
  first | simp only [updS] | simp only [updL, Nat.reduceAdd]
  by_cases hi2 : i < w.length
  · obtain ⟨x, hx⟩ : ∃ x, x = w.getD i 0 := ⟨_, rfl⟩
    have hmem : x ∈ w := by rw [hx, getD_lt 0 hi2]; exact List.getElem_mem hi2
    have hxa := hw x hmem
    obtain ⟨m, hm⟩ : ∃ m, m = x.natAbs := ⟨_, rfl⟩
    have hstep : colW q (w.take (i + 1)) c = stepC q (colW q (w.take i) c) x := by rw [take_snoc hi2, colW_snoc, hx]
    have hC := colW_cols hq.1 (w.take i) c (hw.take i) hc
    obtain ⟨hCl, hCb⟩ := hC
    have ha := hCb (m - 1) (by omega)
    have hb := hCb m (by omega)
    unfold stepC at hstep
    rw [← hm] at hstep
    generalize colW q (w.take i) c = C at *
    have e1 := tmod_tmod_q (a := 2 * C.getD (m - 1) 0 - C.getD m 0) hq.1
    have b1 := Int.lt_tmod_of_pos (2 * C.getD (m - 1) 0 - C.getD m 0) (show 0 < q by omega)
    have b2 := Int.tmod_lt_of_pos (2 * C.getD (m - 1) 0 - C.getD m 0) (show 0 < q by omega)
    have e2 := tmod_tmod_q (a := 2 * C.getD m 0 - C.getD (m - 1) 0) hq.1
    have b3 := Int.lt_tmod_of_pos (2 * C.getD m 0 - C.getD (m - 1) 0) (show 0 < q by omega)
    have b4 := Int.tmod_lt_of_pos (2 * C.getD m 0 - C.getD (m - 1) 0) (show 0 < q by omega)
    have em : ((m : Int) - 1).toNat = m - 1 := by omega
    repeat (first | refine S0 ?_ | refine S1 ?_ | refine S2 ?_ | refine S3 ?_ | refine S4 ?_ | refine S5 ?_ | refine S6 ?_ | refine S7 ?_ | refine S8 ?_ | refine S10 ?_ | refine S11 ?_ | refine S13 ?_ | refine S15 ?_ | refine S16 ?_ | refine S19 ?_ | refine S20 ?_ | refine S21 ?_ | refine S22 ?_ | refine S23 ?_ | refine S25 ?_ | refine S26 ?_ | refine S27 ?_ | refine S30 ?_ | refine S33 ?_ | refine S46 ?_ | refine S51 ?_ | refine S53 ?_ | refine S65 ?_ | refine S76 ?_)
    rw [← hx]
    repeat (first | refine S0 ?_ | refine S1 ?_ | refine S2 ?_ | refine S3 ?_ | refine S4 ?_ | refine S5 ?_ | refine S6 ?_ | refine S7 ?_ | refine S8 ?_ | refine S10 ?_ | refine S11 ?_ | refine S13 ?_ | refine S15 ?_ | refine S16 ?_ | refine S19 ?_ | refine S20 ?_ | refine S21 ?_ | refine S22 ?_ | refine S23 ?_ | refine S25 ?_ | refine S26 ?_ | refine S27 ?_ | refine S30 ?_ | refine S33 ?_ | refine S46 ?_ | refine S51 ?_ | refine S53 ?_ | refine S65 ?_ | refine S76 ?_)
    refine Scall (args := [pint x]) (rindex_s x (by omega)) ?_
    rw [abs_nat, ← hm]
    repeat (first | refine S0 ?_ | refine S1 ?_ | refine S2 ?_ | refine S3 ?_ | refine S4 ?_ | refine S5 ?_ | refine S6 ?_ | refine S7 ?_ | refine S8 ?_ | refine S10 ?_ | refine S11 ?_ | refine S13 ?_ | refine S15 ?_ | refine S16 ?_ | refine S19 ?_ | refine S20 ?_ | refine S21 ?_ | refine S22 ?_ | refine S23 ?_ | refine S25 ?_ | refine S26 ?_ | refine S27 ?_ | refine S30 ?_ | refine S33 ?_ | refine S46 ?_ | refine S51 ?_ | refine S53 ?_ | refine S65 ?_ | refine S76 ?_)
    rw [em]
    repeat (first | refine S0 ?_ | refine S1 ?_ | refine S2 ?_ | refine S3 ?_ | refine S4 ?_ | refine S5 ?_ | refine S6 ?_ | refine S7 ?_ | refine S8 ?_ | refine S10 ?_ | refine S11 ?_ | refine S13 ?_ | refine S15 ?_ | refine S16 ?_ | refine S19 ?_ | refine S20 ?_ | refine S21 ?_ | refine S22 ?_ | refine S23 ?_ | refine S25 ?_ | refine S26 ?_ | refine S27 ?_ | refine S30 ?_ | refine S33 ?_ | refine S46 ?_ | refine S51 ?_ | refine S53 ?_ | refine S65 ?_ | refine S76 ?_)
    by_cases hs : 0 < x
    · rw [if_pos hs] at hstep
      repeat (first | refine S0 ?_ | refine S1 ?_ | refine S2 ?_ | refine S3 ?_ | refine S4 ?_ | refine S5 ?_ | refine S6 ?_ | refine S7 ?_ | refine S8 ?_ | refine S10 ?_ | refine S11 ?_ | refine S13 ?_ | refine S15 ?_ | refine S16 ?_ | refine S19 ?_ | refine S20 ?_ | refine S21 ?_ | refine S22 ?_ | refine S23 ?_ | refine S25 ?_ | refine S26 ?_ | refine S27 ?_ | refine S30 ?_ | refine S33 ?_ | refine S46 ?_ | refine S51 ?_ | refine S53 ?_ | refine S65 ?_ | refine S76 ?_)
      rw [em, e1]
      exact ⟨i + 1, hi2, SLx, ⟨by rw [hstep]; exact HBx, (by first | omega | (simp only [HP.tokF, HP.tokT, HP.next_add, HP.next_set, HP.next_kill, HP.next_H0, HP.next_addS, HP.next_setS, HP.next_killS, HP.next_put, HP.next_bump, HP.next_putS]; omega))⟩, by omega⟩
    · rw [if_neg hs] at hstep
      repeat (first | refine S0 ?_ | refine S1 ?_ | refine S2 ?_ | refine S3 ?_ | refine S4 ?_ | refine S5 ?_ | refine S6 ?_ | refine S7 ?_ | refine S8 ?_ | refine S10 ?_ | refine S11 ?_ | refine S13 ?_ | refine S15 ?_ | refine S16 ?_ | refine S19 ?_ | refine S20 ?_ | refine S21 ?_ | refine S22 ?_ | refine S23 ?_ | refine S25 ?_ | refine S26 ?_ | refine S27 ?_ | refine S30 ?_ | refine S33 ?_ | refine S46 ?_ | refine S51 ?_ | refine S53 ?_ | refine S65 ?_ | refine S76 ?_)
      rw [em, e2]
      exact ⟨i + 1, hi2, SLx, ⟨by rw [hstep]; exact HBx, (by first | omega | (simp only [HP.tokF, HP.tokT, HP.next_add, HP.next_set, HP.next_kill, HP.next_H0, HP.next_addS, HP.next_setS, HP.next_killS, HP.next_put, HP.next_bump, HP.next_putS]; omega))⟩, by omega⟩
  · obtain rfl : i = w.length := by omega
    rw [List.take_length] at hB
    have hlen : (colW q w c).length = n := by rw [colW_len, hcl]
    have e := Ow.ints (h := hp) (t := 0) (k := n) (zs := colW q w c) (ys := colW q w c) hB hlen.symm rfl
    rw [hlen] at e
    repeat (first | refine S0 ?_ | refine S1 ?_ | refine S2 ?_ | refine S3 ?_ | refine S4 ?_ | refine S5 ?_ | refine S6 ?_ | refine S7 ?_ | refine S8 ?_ | refine S10 ?_ | refine S11 ?_ | refine S13 ?_ | refine S15 ?_ | refine S16 ?_ | refine S19 ?_ | refine S20 ?_ | refine S21 ?_ | refine S22 ?_ | refine S23 ?_ | refine S25 ?_ | refine S26 ?_ | refine S27 ?_ | refine S30 ?_ | refine S33 ?_ | refine S46 ?_ | refine S51 ?_ | refine S53 ?_ | refine S65 ?_ | refine S76 ?_)
    exact ⟨.inr rfl, e⟩
end Go.Proofs.Ytgjfpmjllpgadaa
