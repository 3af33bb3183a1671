/- Facts and contracts that the claim uses. No condition of its own. -/
import Derived.Test.YtkmkcbkfakoomaaGRingCoursesBT
set_option linter.unusedVariables false
set_option linter.unusedSimpArgs false
namespace Go.Proofs.Ytkmkcbkfakoomaa
open Go.RowKit
def exI (n j i : Nat) : List Int := (List.range i).map fun i => if j % 2 = 0 then ((2 ^ (n - 2 - i) : Nat) : Int) else ((2 ^ i : Nat) : Int)
theorem exI_succ (n j i : Nat) : exI n j (i + 1) = exI n j i ++ [if j % 2 = 0 then ((2 ^ (n - 2 - i) : Nat) : Int) else ((2 ^ i : Nat) : Int)] := by simp [exI, List.range_succ]
theorem exB_eq (n j : Nat) (c : Int) : exB n j c = exI n j (n - 1) ++ [if j % 2 = 0 then 2 * c else c] := by
  unfold exB exI
  by_cases h : j % 2 = 0
  · simp only [if_pos h]
  · simp only [if_neg h]
theorem exI_len (n j i : Nat) : (exI n j i).length = i := by simp [exI]
theorem bshl_g {x y : Int} (b r : Nat) (hx : x = b) (hy : y = r) (hr : r ≤ 1) (hb : b < 64) (t : TypeId) (p q : Operand) (w : World) : (do eqGuard .shl t p q (.int .i64 x) (.int .i64 y); binOp .shl t (.int .i64 x) (.int .i64 y) : Sem Value).run Try.prog w = .ok (.int .i64 ((b * 2 ^ r : Nat) : Int)) w := by
  subst hx hy
  have h1 : (eqGuard .shl t p q (.int .i64 b) (.int .i64 r)).run Try.prog w = .ok () w := rfl
  rw [Sem.run_bind, h1]
  have h2 : min r 64 = r := by omega
  have h3 : ¬ ((r : Int) < 0) := by omega
  have e : ((b : Int) * 2 ^ r : Int) = ((b * 2 ^ r : Nat) : Int) := by rw [Int.natCast_mul, Int.natCast_pow]; rfl
  have h5 : IntKind.i64.wrap ((b * 2 ^ r : Nat) : Int) = ((b * 2 ^ r : Nat) : Int) := by
    rcases (show r = 0 ∨ r = 1 by omega) with rfl | rfl <;> exact w64 (by omega)
  simp only [binOp, Op.shift, IntKind.bits, h3, if_false, Int.toNat_natCast, h2, Result.andThen_ok]
  rw [e, h5]
  rfl
set_option maxHeartbeats 8000000 in
set_option maxRecDepth 100000 in
theorem ext_o : ∀ (n : Nat), 2 ≤ n → n ≤ 7 → SCo Try.prog 36 [pint n] 1 (exL n).length (ints (exL n))
  | 0, h, _ => by omega
  | 1, h, _ => by omega
  | 2, _, _ => by
    refine SCo.go { mt := [9] } tok mixed Try.func36 rfl rfl Try.ntmps36 rfl rfl (by kernel_rfl) ?_
    first | simp only [updS] | simp only [updL, Nat.reduceAdd]
    repeat (first | refine S0 ?_ | refine S1 ?_ | refine S2 ?_ | refine S4 ?_ | refine S5 ?_ | refine S6 ?_ | refine S7 ?_ | refine S8 ?_ | refine S9 ?_ | refine S10 ?_ | refine S11 ?_ | refine S13 ?_ | refine S15 ?_ | refine S16 ?_ | refine S19 ?_ | refine S20 ?_ | refine S21 ?_ | refine S22 ?_ | refine S23 ?_ | refine S25 ?_ | refine S26 ?_ | refine S28 ?_ | refine S33 ?_ | refine S49 ?_ | refine S50 ?_ | refine S53 ?_ | refine S63 ?_)
    exact ⟨.inr rfl, Ow.ints (zs := [1, 1]) (ys := [1, 1]) HBx rfl rfl⟩
  | n + 3, _, hn => by
    have k1 : SC Try.prog 36 [pint (n + 2 : Nat)] (pli (exL (n + 2))) := (ext_o (n + 2) (by omega) (by omega)).sc (by simp)
    obtain ⟨hl, hb⟩ := exL_ok (n + 2) (by omega)
    have hf := fac_bd (show n + 2 ≤ 7 by omega)
    have hlen := fun j => exS_len (n := n + 3) (l := exL (n + 2)) (by omega) j
    rw [show exL (n + 3) = exS (n + 3) (exL (n + 2)) (exL (n + 2)).length from rfl]
    rw [← hl] at hf
    have hS0 : ([] : List Int) = exS (n + 3) (exL (n + 2)) 0 := rfl
    have hS1 : ∀ j, exS (n + 3) (exL (n + 2)) (j + 1) = exS (n + 3) (exL (n + 2)) j ++ exB (n + 3) j ((exL (n + 2)).getD j 0) := fun _ => rfl
    clear hl
    generalize exL (n + 2) = L at *
    refine SCo.go { mt := [9] } tok mixed Try.func36 rfl rfl Try.ntmps36 rfl rfl (by kernel_rfl) ?_
    first | simp only [updS] | simp only [updL, Nat.reduceAdd]
    repeat (first | refine S0 ?_ | refine S1 ?_ | refine S2 ?_ | refine S4 ?_ | refine S5 ?_ | refine S6 ?_ | refine S7 ?_ | refine S8 ?_ | refine S9 ?_ | refine S10 ?_ | refine S11 ?_ | refine S13 ?_ | refine S15 ?_ | refine S16 ?_ | refine S19 ?_ | refine S20 ?_ | refine S21 ?_ | refine S22 ?_ | refine S23 ?_ | refine S25 ?_ | refine S26 ?_ | refine S28 ?_ | refine S33 ?_ | refine S49 ?_ | refine S50 ?_ | refine S53 ?_ | refine S63 ?_)
    rw [show ((n + 3 : Nat) : Int) - 1 = ((n + 2 : Nat) : Int) by omega]
    refine Scall (args := [pint (n + 2 : Nat)]) k1 ?_
    repeat (first | refine S0 ?_ | refine S1 ?_ | refine S2 ?_ | refine S4 ?_ | refine S5 ?_ | refine S6 ?_ | refine S7 ?_ | refine S8 ?_ | refine S9 ?_ | refine S10 ?_ | refine S11 ?_ | refine S13 ?_ | refine S15 ?_ | refine S16 ?_ | refine S19 ?_ | refine S20 ?_ | refine S21 ?_ | refine S22 ?_ | refine S23 ?_ | refine S25 ?_ | refine S26 ?_ | refine S28 ?_ | refine S33 ?_ | refine S49 ?_ | refine S50 ?_ | refine S53 ?_ | refine S63 ?_)
    refine CW.own 3 1 rfl ?_
    refine CW.loopS (fun i : Nat × Nat => i.1 ≤ L.length ∧ i.2 % 2 = 0) (fun i => [(0, pint (n + 3 : Nat)), (3, .ref i.2 0 1 (exS (n + 3) L i.1).length), (12, pli L), (13, pint L.length), (14, pint i.1)])
      (fun i h => h.blk i.2 = some (ints (exS (n + 3) L i.1)) ∧ i.2 < 2 * h.next) (fun i => L.length - i.1) (0, 0) ⟨⟨Nat.zero_le _, rfl⟩, SLx, HBx, (by first | omega | (simp only [HP.tokF, HP.tokT, HP.next_add, HP.next_set, HP.next_kill, HP.next_H0, HP.next_addS, HP.next_setS, HP.next_killS, HP.next_put, HP.next_bump, HP.next_putS]; omega))⟩ ?_
    rintro ⟨j, T⟩ t hp ⟨hj, hT2⟩ ⟨hB, hTl⟩
    simp only at hj hT2 hB hTl
    first | simp only [updS] | simp only [updL, Nat.reduceAdd]
    have hlj := hlen j
    have hjm : j * (n + 3) ≤ 5040 * 7 := Nat.mul_le_mul (by omega) (by omega)
    by_cases hj2 : j < L.length
    · have hcb := hb (L.getD j 0) (by rw [getD_lt 0 hj2]; exact List.getElem_mem hj2)
      have hc64 : (2 : Int) ^ (n + 2 - 1) ≤ 64 := by
        have : (2 : Nat) ^ (n + 2 - 1) ≤ 2 ^ 5 := Nat.pow_le_pow_right (by decide) (by omega)
        have e : ((2 ^ (n + 2 - 1) : Nat) : Int) = (2 : Int) ^ (n + 2 - 1) := by simp
        omega
      have e1 := hS1 j
      rw [exB_eq] at e1
      obtain ⟨b, hbc⟩ : ∃ b : Nat, L.getD j 0 = b := ⟨(L.getD j 0).toNat, by omega⟩
      rw [hbc] at e1 hcb
      obtain ⟨X, hX⟩ : ∃ X, X = exS (n + 3) L j := ⟨_, rfl⟩
      rw [← hX] at e1 hB hlj ⊢
      have e1l := congrArg List.length e1
      rw [List.length_append, List.length_append, exI_len] at e1l
      simp only [List.length_singleton] at e1l
      repeat (first | refine S0 ?_ | refine S1 ?_ | refine S2 ?_ | refine S4 ?_ | refine S5 ?_ | refine S6 ?_ | refine S7 ?_ | refine S8 ?_ | refine S9 ?_ | refine S10 ?_ | refine S11 ?_ | refine S13 ?_ | refine S15 ?_ | refine S16 ?_ | refine S19 ?_ | refine S20 ?_ | refine S21 ?_ | refine S22 ?_ | refine S23 ?_ | refine S25 ?_ | refine S26 ?_ | refine S28 ?_ | refine S33 ?_ | refine S49 ?_ | refine S50 ?_ | refine S53 ?_ | refine S63 ?_)
      rw [hbc]
      refine CW.loopS (fun i : Nat × Nat => i.1 ≤ n + 2 ∧ i.2 % 2 = 0) (fun i => [(0, pint (n + 3 : Nat)), (3, .ref i.2 0 1 (X ++ exI (n + 3) j i.1).length), (12, pli L), (13, pint L.length), (14, pint j), (4, pint j), (5, pint b), (20, pint ((n + 3 : Nat) - 1)), (21, pint i.1)])
        (fun i h => h.blk i.2 = some (ints (X ++ exI (n + 3) j i.1)) ∧ i.2 < 2 * h.next) (fun i => n + 2 - i.1) (0, T) ⟨⟨Nat.zero_le _, hT2⟩, by simp only [exI, List.range_zero, List.map_nil, List.append_nil]; exact SLx, by simp only [exI, List.range_zero, List.map_nil, List.append_nil]; exact hB, hTl⟩ ?_
      clear hB hTl hT2
      clear t hp T
      rintro ⟨i, T⟩ t hp ⟨hi, hT2⟩ ⟨hB, hTl⟩
      simp only at hi hT2 hB hTl
      first | simp only [updS] | simp only [updL, Nat.reduceAdd]
      have es := exI_succ (n + 3) j i
      have hil : (X ++ exI (n + 3) j i).length = X.length + i := by rw [List.length_append, exI_len]
      by_cases hi2 : i < n + 2
      · by_cases hpar : j % 2 = 0
        · have hpz : ((j : Nat) : Int) % 2 = 0 := by omega
          rw [if_pos hpar] at es
          have es2 : X ++ exI (n + 3) j (i + 1) = (X ++ exI (n + 3) j i) ++ [((2 ^ (n + 3 - 2 - i) : Nat) : Int)] := by rw [es, List.append_assoc]
          generalize X ++ exI (n + 3) j i = Y at *
          repeat (first | refine S0 ?_ | refine S1 ?_ | refine S2 ?_ | refine S4 ?_ | refine S5 ?_ | refine S6 ?_ | refine S7 ?_ | refine S8 ?_ | refine S9 ?_ | refine S10 ?_ | refine S11 ?_ | refine S13 ?_ | refine S15 ?_ | refine S16 ?_ | refine S19 ?_ | refine S20 ?_ | refine S21 ?_ | refine S22 ?_ | refine S23 ?_ | refine S25 ?_ | refine S26 ?_ | refine S28 ?_ | refine S33 ?_ | refine S49 ?_ | refine S50 ?_ | refine S53 ?_ | refine S63 ?_)
          refine AW.binf EVx EVx (bshl_z (n + 3 - 2 - i) (by omega) (by omega) _ _ _) ?_
          repeat (first | refine S0 ?_ | refine S1 ?_ | refine S2 ?_ | refine S4 ?_ | refine S5 ?_ | refine S6 ?_ | refine S7 ?_ | refine S8 ?_ | refine S9 ?_ | refine S10 ?_ | refine S11 ?_ | refine S13 ?_ | refine S15 ?_ | refine S16 ?_ | refine S19 ?_ | refine S20 ?_ | refine S21 ?_ | refine S22 ?_ | refine S23 ?_ | refine S25 ?_ | refine S26 ?_ | refine S28 ?_ | refine S33 ?_ | refine S49 ?_ | refine S50 ?_ | refine S53 ?_ | refine S63 ?_)
          refine ⟨(i + 1, hp.tok false), ⟨by simp only; omega, HP.tok_even _⟩, ?_, ⟨?_, ?_⟩, by simp only; omega⟩
          · simp only
            rw [es2]
            exact SLx
          · simp only
            rw [es2]
            exact HBx
          · exact (by first | omega | (simp only [HP.tokF, HP.tokT, HP.next_add, HP.next_set, HP.next_kill, HP.next_H0, HP.next_addS, HP.next_setS, HP.next_killS, HP.next_put, HP.next_bump, HP.next_putS]; omega))
        · have hpz : ((j : Nat) : Int) % 2 = 1 := by omega
          rw [if_neg hpar] at es
          have es2 : X ++ exI (n + 3) j (i + 1) = (X ++ exI (n + 3) j i) ++ [((2 ^ i : Nat) : Int)] := by rw [es, List.append_assoc]
          generalize X ++ exI (n + 3) j i = Y at *
          repeat (first | refine S0 ?_ | refine S1 ?_ | refine S2 ?_ | refine S4 ?_ | refine S5 ?_ | refine S6 ?_ | refine S7 ?_ | refine S8 ?_ | refine S9 ?_ | refine S10 ?_ | refine S11 ?_ | refine S13 ?_ | refine S15 ?_ | refine S16 ?_ | refine S19 ?_ | refine S20 ?_ | refine S21 ?_ | refine S22 ?_ | refine S23 ?_ | refine S25 ?_ | refine S26 ?_ | refine S28 ?_ | refine S33 ?_ | refine S49 ?_ | refine S50 ?_ | refine S53 ?_ | refine S63 ?_)
          refine AW.binf EVx EVx (bshl_z i rfl (by omega) _ _ _) ?_
          repeat (first | refine S0 ?_ | refine S1 ?_ | refine S2 ?_ | refine S4 ?_ | refine S5 ?_ | refine S6 ?_ | refine S7 ?_ | refine S8 ?_ | refine S9 ?_ | refine S10 ?_ | refine S11 ?_ | refine S13 ?_ | refine S15 ?_ | refine S16 ?_ | refine S19 ?_ | refine S20 ?_ | refine S21 ?_ | refine S22 ?_ | refine S23 ?_ | refine S25 ?_ | refine S26 ?_ | refine S28 ?_ | refine S33 ?_ | refine S49 ?_ | refine S50 ?_ | refine S53 ?_ | refine S63 ?_)
          refine ⟨(i + 1, hp.tok false), ⟨by simp only; omega, HP.tok_even _⟩, ?_, ⟨?_, ?_⟩, by simp only; omega⟩
          · simp only
            rw [es2]
            exact SLx
          · simp only
            rw [es2]
            exact HBx
          · exact (by first | omega | (simp only [HP.tokF, HP.tokT, HP.next_add, HP.next_set, HP.next_kill, HP.next_H0, HP.next_addS, HP.next_setS, HP.next_killS, HP.next_put, HP.next_bump, HP.next_putS]; omega))
      · obtain rfl : i = n + 2 := by omega
        rw [show n + 3 - 1 = n + 2 from rfl] at e1
        rw [← List.append_assoc] at e1
        by_cases hpar : j % 2 = 0
        · have hpz : ((j : Nat) : Int) % 2 = 0 := by omega
          rw [if_pos hpar] at e1
          rw [show 2 * ((b : Nat) : Int) = ((2 * b : Nat) : Int) by omega] at e1
          generalize X ++ exI (n + 3) j (n + 2) = Y at *
          repeat (first | refine S0 ?_ | refine S1 ?_ | refine S2 ?_ | refine S4 ?_ | refine S5 ?_ | refine S6 ?_ | refine S7 ?_ | refine S8 ?_ | refine S9 ?_ | refine S10 ?_ | refine S11 ?_ | refine S13 ?_ | refine S15 ?_ | refine S16 ?_ | refine S19 ?_ | refine S20 ?_ | refine S21 ?_ | refine S22 ?_ | refine S23 ?_ | refine S25 ?_ | refine S26 ?_ | refine S28 ?_ | refine S33 ?_ | refine S49 ?_ | refine S50 ?_ | refine S53 ?_ | refine S63 ?_)
          refine AW.binf EVx EVx (bshl1 b (by omega) _ _ _) ?_
          repeat (first | refine S0 ?_ | refine S1 ?_ | refine S2 ?_ | refine S4 ?_ | refine S5 ?_ | refine S6 ?_ | refine S7 ?_ | refine S8 ?_ | refine S9 ?_ | refine S10 ?_ | refine S11 ?_ | refine S13 ?_ | refine S15 ?_ | refine S16 ?_ | refine S19 ?_ | refine S20 ?_ | refine S21 ?_ | refine S22 ?_ | refine S23 ?_ | refine S25 ?_ | refine S26 ?_ | refine S28 ?_ | refine S33 ?_ | refine S49 ?_ | refine S50 ?_ | refine S53 ?_ | refine S63 ?_)
          refine ⟨(j + 1, hp.tok false), ⟨by simp only; omega, HP.tok_even _⟩, ?_, ⟨?_, ?_⟩, by simp only; omega⟩
          · simp only
            rw [e1]
            exact SLx
          · simp only
            rw [e1]
            exact HBx
          · exact (by first | omega | (simp only [HP.tokF, HP.tokT, HP.next_add, HP.next_set, HP.next_kill, HP.next_H0, HP.next_addS, HP.next_setS, HP.next_killS, HP.next_put, HP.next_bump, HP.next_putS]; omega))
        · have hpz : ((j : Nat) : Int) % 2 = 1 := by omega
          rw [if_neg hpar] at e1
          generalize X ++ exI (n + 3) j (n + 2) = Y at *
          repeat (first | refine S0 ?_ | refine S1 ?_ | refine S2 ?_ | refine S4 ?_ | refine S5 ?_ | refine S6 ?_ | refine S7 ?_ | refine S8 ?_ | refine S9 ?_ | refine S10 ?_ | refine S11 ?_ | refine S13 ?_ | refine S15 ?_ | refine S16 ?_ | refine S19 ?_ | refine S20 ?_ | refine S21 ?_ | refine S22 ?_ | refine S23 ?_ | refine S25 ?_ | refine S26 ?_ | refine S28 ?_ | refine S33 ?_ | refine S49 ?_ | refine S50 ?_ | refine S53 ?_ | refine S63 ?_)
          refine ⟨(j + 1, hp.tok false), ⟨by simp only; omega, HP.tok_even _⟩, ?_, ⟨?_, ?_⟩, by simp only; omega⟩
          · simp only
            rw [e1]
            exact SLx
          · simp only
            rw [e1]
            exact HBx
          · exact (by first | omega | (simp only [HP.tokF, HP.tokT, HP.next_add, HP.next_set, HP.next_kill, HP.next_H0, HP.next_addS, HP.next_setS, HP.next_killS, HP.next_put, HP.next_bump, HP.next_putS]; omega))
    · obtain rfl : j = L.length := by omega
      repeat (first | refine S0 ?_ | refine S1 ?_ | refine S2 ?_ | refine S4 ?_ | refine S5 ?_ | refine S6 ?_ | refine S7 ?_ | refine S8 ?_ | refine S9 ?_ | refine S10 ?_ | refine S11 ?_ | refine S13 ?_ | refine S15 ?_ | refine S16 ?_ | refine S19 ?_ | refine S20 ?_ | refine S21 ?_ | refine S22 ?_ | refine S23 ?_ | refine S25 ?_ | refine S26 ?_ | refine S28 ?_ | refine S33 ?_ | refine S49 ?_ | refine S50 ?_ | refine S53 ?_ | refine S63 ?_)
      exact ⟨.inr rfl, Ow.ints (zs := exS (n + 3) L L.length) (ys := exS (n + 3) L L.length) hB rfl rfl⟩
set_option maxHeartbeats 8000000 in
set_option maxRecDepth 100000 in
theorem plain_o : ∀ (n : Nat), 2 ≤ n → n ≤ 7 → SCo Try.prog 20 [pint n] 1 (exL n).length (ints (exL n))
  | 0, h, _ => by omega
  | 1, h, _ => by omega
  | 2, _, _ => by
    refine SCo.go { mt := [9] } tok mixed Try.func20 rfl rfl Try.ntmps20 rfl rfl (by kernel_rfl) ?_
    first | simp only [updS] | simp only [updL, Nat.reduceAdd]
    repeat (first | refine S0 ?_ | refine S1 ?_ | refine S2 ?_ | refine S4 ?_ | refine S5 ?_ | refine S6 ?_ | refine S7 ?_ | refine S8 ?_ | refine S9 ?_ | refine S10 ?_ | refine S11 ?_ | refine S13 ?_ | refine S15 ?_ | refine S16 ?_ | refine S19 ?_ | refine S20 ?_ | refine S21 ?_ | refine S22 ?_ | refine S23 ?_ | refine S25 ?_ | refine S26 ?_ | refine S28 ?_ | refine S33 ?_ | refine S49 ?_ | refine S50 ?_ | refine S53 ?_ | refine S63 ?_)
    exact ⟨.inr rfl, Ow.ints (zs := [1, 1]) (ys := [1, 1]) HBx rfl rfl⟩
  | n + 3, _, hn => by
    have k1 : SC Try.prog 20 [pint (n + 2 : Nat)] (pli (exL (n + 2))) := (plain_o (n + 2) (by omega) (by omega)).sc (by simp)
    obtain ⟨hl, hb⟩ := exL_ok (n + 2) (by omega)
    have hf := fac_bd (show n + 2 ≤ 7 by omega)
    have hlen := fun j => exS_len (n := n + 3) (l := exL (n + 2)) (by omega) j
    rw [show exL (n + 3) = exS (n + 3) (exL (n + 2)) (exL (n + 2)).length from rfl]
    rw [← hl] at hf
    have hS0 : ([] : List Int) = exS (n + 3) (exL (n + 2)) 0 := rfl
    have hS1 : ∀ j, exS (n + 3) (exL (n + 2)) (j + 1) = exS (n + 3) (exL (n + 2)) j ++ exB (n + 3) j ((exL (n + 2)).getD j 0) := fun _ => rfl
    clear hl
    generalize exL (n + 2) = L at *
    refine SCo.go { mt := [9] } tok mixed Try.func20 rfl rfl Try.ntmps20 rfl rfl (by kernel_rfl) ?_
    first | simp only [updS] | simp only [updL, Nat.reduceAdd]
    repeat (first | refine S0 ?_ | refine S1 ?_ | refine S2 ?_ | refine S4 ?_ | refine S5 ?_ | refine S6 ?_ | refine S7 ?_ | refine S8 ?_ | refine S9 ?_ | refine S10 ?_ | refine S11 ?_ | refine S13 ?_ | refine S15 ?_ | refine S16 ?_ | refine S19 ?_ | refine S20 ?_ | refine S21 ?_ | refine S22 ?_ | refine S23 ?_ | refine S25 ?_ | refine S26 ?_ | refine S28 ?_ | refine S33 ?_ | refine S49 ?_ | refine S50 ?_ | refine S53 ?_ | refine S63 ?_)
    rw [show ((n + 3 : Nat) : Int) - 1 = ((n + 2 : Nat) : Int) by omega]
    refine Scall (args := [pint (n + 2 : Nat)]) k1 ?_
    repeat (first | refine S0 ?_ | refine S1 ?_ | refine S2 ?_ | refine S4 ?_ | refine S5 ?_ | refine S6 ?_ | refine S7 ?_ | refine S8 ?_ | refine S9 ?_ | refine S10 ?_ | refine S11 ?_ | refine S13 ?_ | refine S15 ?_ | refine S16 ?_ | refine S19 ?_ | refine S20 ?_ | refine S21 ?_ | refine S22 ?_ | refine S23 ?_ | refine S25 ?_ | refine S26 ?_ | refine S28 ?_ | refine S33 ?_ | refine S49 ?_ | refine S50 ?_ | refine S53 ?_ | refine S63 ?_)
    refine CW.own 3 1 rfl ?_
    refine CW.loopS (fun i : Nat × Nat => i.1 ≤ L.length ∧ i.2 % 2 = 0) (fun i => [(0, pint (n + 3 : Nat)), (3, .ref i.2 0 1 (exS (n + 3) L i.1).length), (12, pli L), (13, pint L.length), (14, pint i.1)])
      (fun i h => h.blk i.2 = some (ints (exS (n + 3) L i.1)) ∧ i.2 < 2 * h.next) (fun i => L.length - i.1) (0, 0) ⟨⟨Nat.zero_le _, rfl⟩, SLx, HBx, (by first | omega | (simp only [HP.tokF, HP.tokT, HP.next_add, HP.next_set, HP.next_kill, HP.next_H0, HP.next_addS, HP.next_setS, HP.next_killS, HP.next_put, HP.next_bump, HP.next_putS]; omega))⟩ ?_
    rintro ⟨j, T⟩ t hp ⟨hj, hT2⟩ ⟨hB, hTl⟩
    simp only at hj hT2 hB hTl
    first | simp only [updS] | simp only [updL, Nat.reduceAdd]
    have hlj := hlen j
    have hjm : j * (n + 3) ≤ 5040 * 7 := Nat.mul_le_mul (by omega) (by omega)
    by_cases hj2 : j < L.length
    · have hcb := hb (L.getD j 0) (by rw [getD_lt 0 hj2]; exact List.getElem_mem hj2)
      have hc64 : (2 : Int) ^ (n + 2 - 1) ≤ 64 := by
        have : (2 : Nat) ^ (n + 2 - 1) ≤ 2 ^ 5 := Nat.pow_le_pow_right (by decide) (by omega)
        have e : ((2 ^ (n + 2 - 1) : Nat) : Int) = (2 : Int) ^ (n + 2 - 1) := by simp
        omega
      have e1 := hS1 j
      rw [exB_eq] at e1
      obtain ⟨b, hbc⟩ : ∃ b : Nat, L.getD j 0 = b := ⟨(L.getD j 0).toNat, by omega⟩
      rw [hbc] at e1 hcb
      obtain ⟨X, hX⟩ : ∃ X, X = exS (n + 3) L j := ⟨_, rfl⟩
      rw [← hX] at e1 hB hlj ⊢
      have e1l := congrArg List.length e1
      rw [List.length_append, List.length_append, exI_len] at e1l
      simp only [List.length_singleton] at e1l
      repeat (first | refine S0 ?_ | refine S1 ?_ | refine S2 ?_ | refine S4 ?_ | refine S5 ?_ | refine S6 ?_ | refine S7 ?_ | refine S8 ?_ | refine S9 ?_ | refine S10 ?_ | refine S11 ?_ | refine S13 ?_ | refine S15 ?_ | refine S16 ?_ | refine S19 ?_ | refine S20 ?_ | refine S21 ?_ | refine S22 ?_ | refine S23 ?_ | refine S25 ?_ | refine S26 ?_ | refine S28 ?_ | refine S33 ?_ | refine S49 ?_ | refine S50 ?_ | refine S53 ?_ | refine S63 ?_)
      rw [hbc]
      refine CW.loopS (fun i : Nat × Nat => i.1 ≤ n + 2 ∧ i.2 % 2 = 0) (fun i => [(0, pint (n + 3 : Nat)), (3, .ref i.2 0 1 (X ++ exI (n + 3) j i.1).length), (12, pli L), (13, pint L.length), (14, pint j), (4, pint j), (5, pint b), (20, pint ((n + 3 : Nat) - 1)), (21, pint i.1)])
        (fun i h => h.blk i.2 = some (ints (X ++ exI (n + 3) j i.1)) ∧ i.2 < 2 * h.next) (fun i => n + 2 - i.1) (0, T) ⟨⟨Nat.zero_le _, hT2⟩, by simp only [exI, List.range_zero, List.map_nil, List.append_nil]; exact SLx, by simp only [exI, List.range_zero, List.map_nil, List.append_nil]; exact hB, hTl⟩ ?_
      clear hB hTl hT2
      clear t hp T
      rintro ⟨i, T⟩ t hp ⟨hi, hT2⟩ ⟨hB, hTl⟩
      simp only at hi hT2 hB hTl
      first | simp only [updS] | simp only [updL, Nat.reduceAdd]
      have es := exI_succ (n + 3) j i
      have hil : (X ++ exI (n + 3) j i).length = X.length + i := by rw [List.length_append, exI_len]
      by_cases hi2 : i < n + 2
      · by_cases hpar : j % 2 = 0
        · have hpz : ((j : Nat) : Int) % 2 = 0 := by omega
          rw [if_pos hpar] at es
          have es2 : X ++ exI (n + 3) j (i + 1) = (X ++ exI (n + 3) j i) ++ [((2 ^ (n + 3 - 2 - i) : Nat) : Int)] := by rw [es, List.append_assoc]
          generalize X ++ exI (n + 3) j i = Y at *
          repeat (first | refine S0 ?_ | refine S1 ?_ | refine S2 ?_ | refine S4 ?_ | refine S5 ?_ | refine S6 ?_ | refine S7 ?_ | refine S8 ?_ | refine S9 ?_ | refine S10 ?_ | refine S11 ?_ | refine S13 ?_ | refine S15 ?_ | refine S16 ?_ | refine S19 ?_ | refine S20 ?_ | refine S21 ?_ | refine S22 ?_ | refine S23 ?_ | refine S25 ?_ | refine S26 ?_ | refine S28 ?_ | refine S33 ?_ | refine S49 ?_ | refine S50 ?_ | refine S53 ?_ | refine S63 ?_)
          refine AW.binf EVx EVx (bshl_z (n + 3 - 2 - i) (by omega) (by omega) _ _ _) ?_
          repeat (first | refine S0 ?_ | refine S1 ?_ | refine S2 ?_ | refine S4 ?_ | refine S5 ?_ | refine S6 ?_ | refine S7 ?_ | refine S8 ?_ | refine S9 ?_ | refine S10 ?_ | refine S11 ?_ | refine S13 ?_ | refine S15 ?_ | refine S16 ?_ | refine S19 ?_ | refine S20 ?_ | refine S21 ?_ | refine S22 ?_ | refine S23 ?_ | refine S25 ?_ | refine S26 ?_ | refine S28 ?_ | refine S33 ?_ | refine S49 ?_ | refine S50 ?_ | refine S53 ?_ | refine S63 ?_)
          refine ⟨(i + 1, hp.tok false), ⟨by simp only; omega, HP.tok_even _⟩, ?_, ⟨?_, ?_⟩, by simp only; omega⟩
          · simp only
            rw [es2]
            exact SLx
          · simp only
            rw [es2]
            exact HBx
          · exact (by first | omega | (simp only [HP.tokF, HP.tokT, HP.next_add, HP.next_set, HP.next_kill, HP.next_H0, HP.next_addS, HP.next_setS, HP.next_killS, HP.next_put, HP.next_bump, HP.next_putS]; omega))
        · have hpz : ((j : Nat) : Int) % 2 = 1 := by omega
          rw [if_neg hpar] at es
          have es2 : X ++ exI (n + 3) j (i + 1) = (X ++ exI (n + 3) j i) ++ [((2 ^ i : Nat) : Int)] := by rw [es, List.append_assoc]
          generalize X ++ exI (n + 3) j i = Y at *
          repeat (first | refine S0 ?_ | refine S1 ?_ | refine S2 ?_ | refine S4 ?_ | refine S5 ?_ | refine S6 ?_ | refine S7 ?_ | refine S8 ?_ | refine S9 ?_ | refine S10 ?_ | refine S11 ?_ | refine S13 ?_ | refine S15 ?_ | refine S16 ?_ | refine S19 ?_ | refine S20 ?_ | refine S21 ?_ | refine S22 ?_ | refine S23 ?_ | refine S25 ?_ | refine S26 ?_ | refine S28 ?_ | refine S33 ?_ | refine S49 ?_ | refine S50 ?_ | refine S53 ?_ | refine S63 ?_)
          refine AW.binf EVx EVx (bshl_z i rfl (by omega) _ _ _) ?_
          repeat (first | refine S0 ?_ | refine S1 ?_ | refine S2 ?_ | refine S4 ?_ | refine S5 ?_ | refine S6 ?_ | refine S7 ?_ | refine S8 ?_ | refine S9 ?_ | refine S10 ?_ | refine S11 ?_ | refine S13 ?_ | refine S15 ?_ | refine S16 ?_ | refine S19 ?_ | refine S20 ?_ | refine S21 ?_ | refine S22 ?_ | refine S23 ?_ | refine S25 ?_ | refine S26 ?_ | refine S28 ?_ | refine S33 ?_ | refine S49 ?_ | refine S50 ?_ | refine S53 ?_ | refine S63 ?_)
          refine ⟨(i + 1, hp.tok false), ⟨by simp only; omega, HP.tok_even _⟩, ?_, ⟨?_, ?_⟩, by simp only; omega⟩
          · simp only
            rw [es2]
            exact SLx
          · simp only
            rw [es2]
            exact HBx
          · exact (by first | omega | (simp only [HP.tokF, HP.tokT, HP.next_add, HP.next_set, HP.next_kill, HP.next_H0, HP.next_addS, HP.next_setS, HP.next_killS, HP.next_put, HP.next_bump, HP.next_putS]; omega))
      · obtain rfl : i = n + 2 := by omega
        rw [show n + 3 - 1 = n + 2 from rfl] at e1
        rw [← List.append_assoc] at e1
        by_cases hpar : j % 2 = 0
        · have hpz : ((j : Nat) : Int) % 2 = 0 := by omega
          rw [if_pos hpar] at e1
          rw [show 2 * ((b : Nat) : Int) = ((2 * b : Nat) : Int) by omega] at e1
          generalize X ++ exI (n + 3) j (n + 2) = Y at *
          repeat (first | refine S0 ?_ | refine S1 ?_ | refine S2 ?_ | refine S4 ?_ | refine S5 ?_ | refine S6 ?_ | refine S7 ?_ | refine S8 ?_ | refine S9 ?_ | refine S10 ?_ | refine S11 ?_ | refine S13 ?_ | refine S15 ?_ | refine S16 ?_ | refine S19 ?_ | refine S20 ?_ | refine S21 ?_ | refine S22 ?_ | refine S23 ?_ | refine S25 ?_ | refine S26 ?_ | refine S28 ?_ | refine S33 ?_ | refine S49 ?_ | refine S50 ?_ | refine S53 ?_ | refine S63 ?_)
          refine AW.binf EVx EVx (bshl_g b 1 rfl (by omega) (by omega) (by omega) _ _ _) ?_
          rw [show b * 2 ^ 1 = 2 * b by omega]
          repeat (first | refine S0 ?_ | refine S1 ?_ | refine S2 ?_ | refine S4 ?_ | refine S5 ?_ | refine S6 ?_ | refine S7 ?_ | refine S8 ?_ | refine S9 ?_ | refine S10 ?_ | refine S11 ?_ | refine S13 ?_ | refine S15 ?_ | refine S16 ?_ | refine S19 ?_ | refine S20 ?_ | refine S21 ?_ | refine S22 ?_ | refine S23 ?_ | refine S25 ?_ | refine S26 ?_ | refine S28 ?_ | refine S33 ?_ | refine S49 ?_ | refine S50 ?_ | refine S53 ?_ | refine S63 ?_)
          refine ⟨(j + 1, hp.tok false), ⟨by simp only; omega, HP.tok_even _⟩, ?_, ⟨?_, ?_⟩, by simp only; omega⟩
          · simp only
            rw [e1]
            exact SLx
          · simp only
            rw [e1]
            exact HBx
          · exact (by first | omega | (simp only [HP.tokF, HP.tokT, HP.next_add, HP.next_set, HP.next_kill, HP.next_H0, HP.next_addS, HP.next_setS, HP.next_killS, HP.next_put, HP.next_bump, HP.next_putS]; omega))
        · have hpz : ((j : Nat) : Int) % 2 = 1 := by omega
          rw [if_neg hpar] at e1
          generalize X ++ exI (n + 3) j (n + 2) = Y at *
          repeat (first | refine S0 ?_ | refine S1 ?_ | refine S2 ?_ | refine S4 ?_ | refine S5 ?_ | refine S6 ?_ | refine S7 ?_ | refine S8 ?_ | refine S9 ?_ | refine S10 ?_ | refine S11 ?_ | refine S13 ?_ | refine S15 ?_ | refine S16 ?_ | refine S19 ?_ | refine S20 ?_ | refine S21 ?_ | refine S22 ?_ | refine S23 ?_ | refine S25 ?_ | refine S26 ?_ | refine S28 ?_ | refine S33 ?_ | refine S49 ?_ | refine S50 ?_ | refine S53 ?_ | refine S63 ?_)
          refine AW.binf EVx EVx (bshl_g b 0 rfl (by omega) (by omega) (by omega) _ _ _) ?_
          rw [show b * 2 ^ 0 = b by omega]
          repeat (first | refine S0 ?_ | refine S1 ?_ | refine S2 ?_ | refine S4 ?_ | refine S5 ?_ | refine S6 ?_ | refine S7 ?_ | refine S8 ?_ | refine S9 ?_ | refine S10 ?_ | refine S11 ?_ | refine S13 ?_ | refine S15 ?_ | refine S16 ?_ | refine S19 ?_ | refine S20 ?_ | refine S21 ?_ | refine S22 ?_ | refine S23 ?_ | refine S25 ?_ | refine S26 ?_ | refine S28 ?_ | refine S33 ?_ | refine S49 ?_ | refine S50 ?_ | refine S53 ?_ | refine S63 ?_)
          refine ⟨(j + 1, hp.tok false), ⟨by simp only; omega, HP.tok_even _⟩, ?_, ⟨?_, ?_⟩, by simp only; omega⟩
          · simp only
            rw [e1]
            exact SLx
          · simp only
            rw [e1]
            exact HBx
          · exact (by first | omega | (simp only [HP.tokF, HP.tokT, HP.next_add, HP.next_set, HP.next_kill, HP.next_H0, HP.next_addS, HP.next_setS, HP.next_killS, HP.next_put, HP.next_bump, HP.next_putS]; omega))
    · obtain rfl : j = L.length := by omega
      repeat (first | refine S0 ?_ | refine S1 ?_ | refine S2 ?_ | refine S4 ?_ | refine S5 ?_ | refine S6 ?_ | refine S7 ?_ | refine S8 ?_ | refine S9 ?_ | refine S10 ?_ | refine S11 ?_ | refine S13 ?_ | refine S15 ?_ | refine S16 ?_ | refine S19 ?_ | refine S20 ?_ | refine S21 ?_ | refine S22 ?_ | refine S23 ?_ | refine S25 ?_ | refine S26 ?_ | refine S28 ?_ | refine S33 ?_ | refine S49 ?_ | refine S50 ?_ | refine S53 ?_ | refine S63 ?_)
      exact ⟨.inr rfl, Ow.ints (zs := exS (n + 3) L L.length) (ys := exS (n + 3) L L.length) hB rfl rfl⟩
def etE (k : Int) : Int := if k < 2 ∨ 7 < k then 1 else 0
def etL (k : Int) : List Int := if k < 2 ∨ 7 < k then [] else exL k.toNat
set_option maxHeartbeats 4000000 in
set_option maxRecDepth 100000 in
theorem extent_s (k : Int) : SC Try.prog 17 [pint k] (.tup [pli (etL k), pint (etE k)]) := by
  refine SC.go {} tok mixed Try.func17 rfl rfl Try.ntmps17 rfl rfl (by kernel_rfl) ?_
  first | simp only [updS] | simp only [updL, Nat.reduceAdd]
  by_cases h1 : k < 2
  · rw [show etL k = [] from if_pos (.inl h1), show etE k = 1 from if_pos (.inl h1)]
    repeat (first | refine S0 ?_ | refine S1 ?_ | refine S2 ?_ | refine S5 ?_ | refine S7 ?_ | refine S8 ?_ | refine S9 ?_ | refine S15 ?_ | refine S16 ?_ | refine S19 ?_ | refine S20 ?_ | refine S21 ?_ | refine S30 ?_ | refine S37 ?_ | refine S38 ?_ | refine S40 ?_ | refine S41 ?_)
    exact ⟨.inr rfl, Fz.pair (.nrm rfl) (.cl rfl)⟩
  by_cases h2 : 7 < k
  · rw [show etL k = [] from if_pos (.inr h2), show etE k = 1 from if_pos (.inr h2)]
    repeat (first | refine S0 ?_ | refine S1 ?_ | refine S2 ?_ | refine S5 ?_ | refine S7 ?_ | refine S8 ?_ | refine S9 ?_ | refine S15 ?_ | refine S16 ?_ | refine S19 ?_ | refine S20 ?_ | refine S21 ?_ | refine S30 ?_ | refine S37 ?_ | refine S38 ?_ | refine S40 ?_ | refine S41 ?_)
    exact ⟨.inr rfl, Fz.pair (.nrm rfl) (.cl rfl)⟩
  obtain ⟨m, rfl⟩ : ∃ m : Nat, k = m := ⟨k.toNat, by omega⟩
  rw [show etL (m : Int) = exL m by unfold etL; rw [if_neg (by omega), Int.toNat_natCast], show etE (m : Int) = 0 from if_neg (by omega)]
  have ko := ext_o m (by omega) (by omega)
  repeat (first | refine S0 ?_ | refine S1 ?_ | refine S2 ?_ | refine S5 ?_ | refine S7 ?_ | refine S8 ?_ | refine S9 ?_ | refine S15 ?_ | refine S16 ?_ | refine S19 ?_ | refine S20 ?_ | refine S21 ?_ | refine S30 ?_ | refine S37 ?_ | refine S38 ?_ | refine S40 ?_ | refine S41 ?_)
  refine Scallo (args := [pint m]) ko ?_
  repeat (first | refine S0 ?_ | refine S1 ?_ | refine S2 ?_ | refine S5 ?_ | refine S7 ?_ | refine S8 ?_ | refine S9 ?_ | refine S15 ?_ | refine S16 ?_ | refine S19 ?_ | refine S20 ?_ | refine S21 ?_ | refine S30 ?_ | refine S37 ?_ | refine S38 ?_ | refine S40 ?_ | refine S41 ?_)
  refine Scalle (args := [.ref (H0.tok false) 0 1 (exL m).length]) (bclip_e _ (HP.add_same _ _ _)) ?_
  rintro r h' ⟨rfl, rfl⟩
  repeat (first | refine S0 ?_ | refine S1 ?_ | refine S2 ?_ | refine S5 ?_ | refine S7 ?_ | refine S8 ?_ | refine S9 ?_ | refine S15 ?_ | refine S16 ?_ | refine S19 ?_ | refine S20 ?_ | refine S21 ?_ | refine S30 ?_ | refine S37 ?_ | refine S38 ?_ | refine S40 ?_ | refine S41 ?_)
  exact ⟨.inr rfl, Fz.pair (Fz.refI (HP.add_same _ _ _) rfl rfl) (.cl rfl)⟩
end Go.Proofs.Ytkmkcbkfakoomaa
