/- The law AlexanderMinors holds for all numbers and lists. No condition of its own. -/
import Derived.Test.YtenoiklocdoemaaGAlexanderMinorsBY
import Derived.Test.YtenoiklocdoemaaGAlexanderMinorsBC
set_option linter.unusedVariables false
set_option linter.unusedSimpArgs false
namespace Go.Proofs.Ytenoiklocdoemaa
open Go.RowKit

theorem sameR_s {p : Po} {c : List Int} {v : PV} (hw : Wea v (pli c)) (hv : v.cl = true) (b : Bool) (hb : b = decide (p = (0, c))) : SC Try.prog 14 [ppo p, .agg [pint 0, v]] (.sc (.bool b)) := by
  have k := same_s p (0, c)
  rw [← hb] at k
  refine k.wk rfl (fun i hi => ?_)
  match i, hi with
  | 0, _ => exact .refl _
  | 1, _ =>
    refine .agg rfl (fun j hj => ?_)
    match j, hj with
    | 0, _ => exact .refl _
    | 1, _ => exact hw
    | j + 2, hj => exact absurd hj (by simp)
  | i + 2, hi => exact absurd hi (by simp)
theorem alF_cases (n : Int) (w : List Int) : (bF n w ≠ 0 ∧ alF n w = bF n w) ∨ (bF n w = 0 ∧ 20 < w.length ∧ alF n w = 2) ∨ (bF n w = 0 ∧ ¬ 20 < w.length ∧ alF n w = 0) := by
  unfold alF
  by_cases h0 : bF n w ≠ 0
  · exact .inl ⟨h0, if_pos h0⟩
  · by_cases h1 : 20 < w.length
    · exact .inr (.inl ⟨by omega, h1, by rw [if_neg h0, if_pos h1]⟩)
    · exact .inr (.inr ⟨by omega, h1, by rw [if_neg h0, if_neg h1]⟩)
theorem bF_wf2 {n : Int} {w : List Int} (h : bF n w = 0) : (1 ≤ n ∧ n ≤ 6) ∧ w.length ≤ 30 ∧ ∀ x ∈ w, letP n x := by
  unfold bF at h
  split at h
  · omega
  · split at h
    · omega
    · split at h
      · rename_i q1 q2 q3
        exact ⟨by omega, by omega, q3⟩
      · omega
theorem alL_sup (N : Nat) (w : List Int) (hN : N ≤ 6) (hw : w.length ≤ 30) : Sup 150 (alL N w) := by
  have h := lapP_sup (MA_sup w) (List.range (N - 1)) (List.range (N - 1))
  refine h.mono ?_
  rw [List.length_range]
  have : (N - 1) * w.length ≤ 5 * 30 := Nat.mul_le_mul (by omega) hw
  omega
theorem alR_bd (n : Int) (w : List Int) : (alR n w).1 = 0 ∧ (alR n w).2.length ≤ 10000 := by
  unfold alR
  split
  · rename_i h
    refine ⟨rfl, ?_⟩
    rcases alF_cases n w with ⟨h0, e⟩ | ⟨_, _, e⟩ | ⟨h0, h1, _⟩
    · rw [e] at h; exact absurd h h0
    · rw [e] at h; cases h
    · obtain ⟨hn, hl, _⟩ := bF_wf2 h0
      have hb := poW_bd (alL_sup n.toNat w (by omega) hl) (by omega)
      show ((poW (alL n.toNat w)).2.map _).length ≤ 10000
      rw [List.length_map]; omega
  · exact ⟨rfl, by simp⟩
theorem bits_and2 : ∀ b : Fin 512, IntKind.i64.wrap ((BitVec.ofInt IntKind.i64.bits ((b.val : Nat) : Int) &&& BitVec.ofInt IntKind.i64.bits 1).toNat : Int) = ((b.val % 2 : Nat) : Int) := by decide +kernel
theorem bin_and2 (b : Nat) (hb : b < 512) (t : TypeId) (x y : Operand) (w : World) : (do eqGuard .and t x y (.int .i64 b) (.int .i64 1); binOp .and t (.int .i64 b) (.int .i64 1) : Sem Value).run Try.prog w = .ok (.int .i64 ((b % 2 : Nat) : Int)) w := by
  have h1 : (eqGuard .and t x y (.int .i64 b) (.int .i64 1)).run Try.prog w = .ok () w := rfl
  rw [Sem.run_bind, h1]
  show Result.ok (Value.int .i64 (IntKind.i64.wrap ((BitVec.ofInt IntKind.i64.bits (b : Int) &&& BitVec.ofInt IntKind.i64.bits 1).toNat : Int))) w = _
  rw [bits_and2 ⟨b, hb⟩]
theorem atV_step (c : List Int) (h64 : ∀ x ∈ c, in64 x) {k : Nat} (hk : k < c.length) : wrp (atV c k + wrp (c.getD k 0 * (1 - 2 * ((k % 2 : Nat) : Int)))) = atV c (k + 1) := by
  have hx := h64 (c.getD k 0) (by rw [getD_lt 0 hk]; exact List.getElem_mem _)
  show _ = wrp (atV c k + (if k % 2 = 0 then c.getD k 0 else wrp (-(c.getD k 0))))
  rcases Nat.mod_two_eq_zero_or_one k with h | h
  · rw [h, if_pos rfl, show (1 - 2 * ((0 : Nat) : Int)) = 1 from rfl, Int.mul_one, wrp_in hx]
  · rw [h, if_neg (by omega), show (1 - 2 * ((1 : Nat) : Int)) = -1 from rfl, Int.mul_neg, Int.mul_one]
theorem kone_s : SC Try.prog 22 [pint 2, .lst true 1 3 [pint 1, pint 1, pint 1]] (.tup [ppo (0, [1, -1, 1]), pint 0]) := by
  have h := alexP_s 2 [1, 1, 1]
  rw [alR_ex, alF_ex] at h
  refine h.wk rfl (fun i hi => ?_)
  match i, hi with
  | 0, _ => exact .refl _
  | 1, _ => exact .lst (ds := [pint 1, pint 1, pint 1]) rfl (fun j _ => .refl _)
  | i + 2, hi => exact absurd hi (by simp)
set_option maxHeartbeats 16000000 in
set_option maxRecDepth 100000 in
theorem alexMinors_s (n : Int) (w : List Int) : SC Try.prog 5 [pint n, pli w] (.sc (.bool true)) := by
  have k1 := kone_s
  have k2 := sameR_s (p := (0, [1, -1, 1])) (c := [1, -1, 1]) (v := .lst true 1 3 [pint 1, pint (-1), pint 1]) (.lst (ds := [pint 1, pint (-1), pint 1]) rfl (fun j _ => .refl _)) rfl true (by simp)
  have kf := bfault_s n w
  have kp := alexP_s n w
  have hb1 : 0 ≤ bF n w ∧ bF n w ≤ 3 := by unfold bF; repeat' split
                                           all_goals omega
  have hF : 0 ≤ alF n w ∧ alF n w ≤ 3 := by rcases alF_cases n w with ⟨_, e⟩ | ⟨_, _, e⟩ | ⟨_, _, e⟩ <;> rw [e] <;> omega
  have kd := alexD_s n w (alR_bd n w).2 (alR_bd n w).1 hF
  have kz := sameR_s (p := (0, [])) (c := []) (v := .lst true 0 0 []) (.nil _ _ _) rfl true (by simp)
  have hall : ∀ E : Int, E ≠ 0 → alF n w = E → alR n w = (0, []) ∧ alD n w = 0 := fun E h0 e => by
    unfold alD alR
    rw [if_neg (by rw [e]; exact h0), if_neg (by rw [e]; exact h0)]
    exact ⟨rfl, rfl⟩
  refine SC.go {} tok mixed Try.func5 rfl rfl Try.ntmps5 rfl rfl (by kernel_rfl) ?_
  first | simp only [updS] | simp only [updL, Nat.reduceAdd]
  repeat (first | refine S0 ?_ | refine S1 ?_ | refine S2 ?_ | refine S4 ?_ | refine S5 ?_ | refine S6 ?_ | refine S7 ?_ | refine S8 ?_ | refine S9 ?_ | refine S10 ?_ | refine S11 ?_ | refine S13 ?_ | refine S15 ?_ | refine S16 ?_ | refine S19 ?_ | refine S20 ?_ | refine S21 ?_ | refine S22 ?_ | refine S23 ?_ | refine S25 ?_ | refine S26 ?_ | refine S28 ?_ | refine S29 ?_ | refine S30 ?_ | refine S33 ?_ | refine S34 ?_ | refine S36 ?_ | refine S37 ?_ | refine S38 ?_ | refine S40 ?_ | refine S41 ?_ | refine S45 ?_ | refine S46 ?_ | refine S48 ?_ | refine S49 ?_ | refine S51 ?_ | refine S54 ?_ | refine S66 ?_ | refine S68 ?_ | refine S69 ?_)
  refine Scall (args := [pint 2, .lst true 1 3 [pint 1, pint 1, pint 1]]) k1 ?_
  repeat (first | refine S0 ?_ | refine S1 ?_ | refine S2 ?_ | refine S4 ?_ | refine S5 ?_ | refine S6 ?_ | refine S7 ?_ | refine S8 ?_ | refine S9 ?_ | refine S10 ?_ | refine S11 ?_ | refine S13 ?_ | refine S15 ?_ | refine S16 ?_ | refine S19 ?_ | refine S20 ?_ | refine S21 ?_ | refine S22 ?_ | refine S23 ?_ | refine S25 ?_ | refine S26 ?_ | refine S28 ?_ | refine S29 ?_ | refine S30 ?_ | refine S33 ?_ | refine S34 ?_ | refine S36 ?_ | refine S37 ?_ | refine S38 ?_ | refine S40 ?_ | refine S41 ?_ | refine S45 ?_ | refine S46 ?_ | refine S48 ?_ | refine S49 ?_ | refine S51 ?_ | refine S54 ?_ | refine S66 ?_ | refine S68 ?_ | refine S69 ?_)
  refine Scall (args := [ppo (0, [1, -1, 1]), .agg [pint 0, .lst true 1 3 [pint 1, pint (-1), pint 1]]]) k2 ?_
  repeat (first | refine S0 ?_ | refine S1 ?_ | refine S2 ?_ | refine S4 ?_ | refine S5 ?_ | refine S6 ?_ | refine S7 ?_ | refine S8 ?_ | refine S9 ?_ | refine S10 ?_ | refine S11 ?_ | refine S13 ?_ | refine S15 ?_ | refine S16 ?_ | refine S19 ?_ | refine S20 ?_ | refine S21 ?_ | refine S22 ?_ | refine S23 ?_ | refine S25 ?_ | refine S26 ?_ | refine S28 ?_ | refine S29 ?_ | refine S30 ?_ | refine S33 ?_ | refine S34 ?_ | refine S36 ?_ | refine S37 ?_ | refine S38 ?_ | refine S40 ?_ | refine S41 ?_ | refine S45 ?_ | refine S46 ?_ | refine S48 ?_ | refine S49 ?_ | refine S51 ?_ | refine S54 ?_ | refine S66 ?_ | refine S68 ?_ | refine S69 ?_)
  refine Scall (args := [pint n, pli w]) kf ?_
  rcases alF_cases n w with ⟨h0, e1⟩ | ⟨h0, h1, e1⟩ | ⟨h0, h1, e1⟩
  · obtain ⟨r1, r2⟩ := hall _ h0 e1
    rw [e1, r1] at kp
    rw [e1, r2] at kd
    generalize bF n w = E at *
    repeat (first | refine S0 ?_ | refine S1 ?_ | refine S2 ?_ | refine S4 ?_ | refine S5 ?_ | refine S6 ?_ | refine S7 ?_ | refine S8 ?_ | refine S9 ?_ | refine S10 ?_ | refine S11 ?_ | refine S13 ?_ | refine S15 ?_ | refine S16 ?_ | refine S19 ?_ | refine S20 ?_ | refine S21 ?_ | refine S22 ?_ | refine S23 ?_ | refine S25 ?_ | refine S26 ?_ | refine S28 ?_ | refine S29 ?_ | refine S30 ?_ | refine S33 ?_ | refine S34 ?_ | refine S36 ?_ | refine S37 ?_ | refine S38 ?_ | refine S40 ?_ | refine S41 ?_ | refine S45 ?_ | refine S46 ?_ | refine S48 ?_ | refine S49 ?_ | refine S51 ?_ | refine S54 ?_ | refine S66 ?_ | refine S68 ?_ | refine S69 ?_)
    refine Scall (args := [pint n, pli w]) kp ?_
    repeat (first | refine S0 ?_ | refine S1 ?_ | refine S2 ?_ | refine S4 ?_ | refine S5 ?_ | refine S6 ?_ | refine S7 ?_ | refine S8 ?_ | refine S9 ?_ | refine S10 ?_ | refine S11 ?_ | refine S13 ?_ | refine S15 ?_ | refine S16 ?_ | refine S19 ?_ | refine S20 ?_ | refine S21 ?_ | refine S22 ?_ | refine S23 ?_ | refine S25 ?_ | refine S26 ?_ | refine S28 ?_ | refine S29 ?_ | refine S30 ?_ | refine S33 ?_ | refine S34 ?_ | refine S36 ?_ | refine S37 ?_ | refine S38 ?_ | refine S40 ?_ | refine S41 ?_ | refine S45 ?_ | refine S46 ?_ | refine S48 ?_ | refine S49 ?_ | refine S51 ?_ | refine S54 ?_ | refine S66 ?_ | refine S68 ?_ | refine S69 ?_)
    refine Scall (args := [pint n, pli w]) kd ?_
    repeat (first | refine S0 ?_ | refine S1 ?_ | refine S2 ?_ | refine S4 ?_ | refine S5 ?_ | refine S6 ?_ | refine S7 ?_ | refine S8 ?_ | refine S9 ?_ | refine S10 ?_ | refine S11 ?_ | refine S13 ?_ | refine S15 ?_ | refine S16 ?_ | refine S19 ?_ | refine S20 ?_ | refine S21 ?_ | refine S22 ?_ | refine S23 ?_ | refine S25 ?_ | refine S26 ?_ | refine S28 ?_ | refine S29 ?_ | refine S30 ?_ | refine S33 ?_ | refine S34 ?_ | refine S36 ?_ | refine S37 ?_ | refine S38 ?_ | refine S40 ?_ | refine S41 ?_ | refine S45 ?_ | refine S46 ?_ | refine S48 ?_ | refine S49 ?_ | refine S51 ?_ | refine S54 ?_ | refine S66 ?_ | refine S68 ?_ | refine S69 ?_)
    refine Scall (args := [ppo (0, []), .agg [pint 0, .lst true 0 0 []]]) kz ?_
    repeat (first | refine S0 ?_ | refine S1 ?_ | refine S2 ?_ | refine S4 ?_ | refine S5 ?_ | refine S6 ?_ | refine S7 ?_ | refine S8 ?_ | refine S9 ?_ | refine S10 ?_ | refine S11 ?_ | refine S13 ?_ | refine S15 ?_ | refine S16 ?_ | refine S19 ?_ | refine S20 ?_ | refine S21 ?_ | refine S22 ?_ | refine S23 ?_ | refine S25 ?_ | refine S26 ?_ | refine S28 ?_ | refine S29 ?_ | refine S30 ?_ | refine S33 ?_ | refine S34 ?_ | refine S36 ?_ | refine S37 ?_ | refine S38 ?_ | refine S40 ?_ | refine S41 ?_ | refine S45 ?_ | refine S46 ?_ | refine S48 ?_ | refine S49 ?_ | refine S51 ?_ | refine S54 ?_ | refine S66 ?_ | refine S68 ?_ | refine S69 ?_)
    exact ⟨.inr rfl, .cl rfl⟩
  · obtain ⟨r1, r2⟩ := hall 2 (by omega) e1
    rw [e1, r1] at kp
    rw [e1, r2] at kd
    rw [h0]
    repeat (first | refine S0 ?_ | refine S1 ?_ | refine S2 ?_ | refine S4 ?_ | refine S5 ?_ | refine S6 ?_ | refine S7 ?_ | refine S8 ?_ | refine S9 ?_ | refine S10 ?_ | refine S11 ?_ | refine S13 ?_ | refine S15 ?_ | refine S16 ?_ | refine S19 ?_ | refine S20 ?_ | refine S21 ?_ | refine S22 ?_ | refine S23 ?_ | refine S25 ?_ | refine S26 ?_ | refine S28 ?_ | refine S29 ?_ | refine S30 ?_ | refine S33 ?_ | refine S34 ?_ | refine S36 ?_ | refine S37 ?_ | refine S38 ?_ | refine S40 ?_ | refine S41 ?_ | refine S45 ?_ | refine S46 ?_ | refine S48 ?_ | refine S49 ?_ | refine S51 ?_ | refine S54 ?_ | refine S66 ?_ | refine S68 ?_ | refine S69 ?_)
    refine Scall (args := [pint n, pli w]) kp ?_
    repeat (first | refine S0 ?_ | refine S1 ?_ | refine S2 ?_ | refine S4 ?_ | refine S5 ?_ | refine S6 ?_ | refine S7 ?_ | refine S8 ?_ | refine S9 ?_ | refine S10 ?_ | refine S11 ?_ | refine S13 ?_ | refine S15 ?_ | refine S16 ?_ | refine S19 ?_ | refine S20 ?_ | refine S21 ?_ | refine S22 ?_ | refine S23 ?_ | refine S25 ?_ | refine S26 ?_ | refine S28 ?_ | refine S29 ?_ | refine S30 ?_ | refine S33 ?_ | refine S34 ?_ | refine S36 ?_ | refine S37 ?_ | refine S38 ?_ | refine S40 ?_ | refine S41 ?_ | refine S45 ?_ | refine S46 ?_ | refine S48 ?_ | refine S49 ?_ | refine S51 ?_ | refine S54 ?_ | refine S66 ?_ | refine S68 ?_ | refine S69 ?_)
    refine Scall (args := [pint n, pli w]) kd ?_
    repeat (first | refine S0 ?_ | refine S1 ?_ | refine S2 ?_ | refine S4 ?_ | refine S5 ?_ | refine S6 ?_ | refine S7 ?_ | refine S8 ?_ | refine S9 ?_ | refine S10 ?_ | refine S11 ?_ | refine S13 ?_ | refine S15 ?_ | refine S16 ?_ | refine S19 ?_ | refine S20 ?_ | refine S21 ?_ | refine S22 ?_ | refine S23 ?_ | refine S25 ?_ | refine S26 ?_ | refine S28 ?_ | refine S29 ?_ | refine S30 ?_ | refine S33 ?_ | refine S34 ?_ | refine S36 ?_ | refine S37 ?_ | refine S38 ?_ | refine S40 ?_ | refine S41 ?_ | refine S45 ?_ | refine S46 ?_ | refine S48 ?_ | refine S49 ?_ | refine S51 ?_ | refine S54 ?_ | refine S66 ?_ | refine S68 ?_ | refine S69 ?_)
    refine Scall (args := [ppo (0, []), .agg [pint 0, .lst true 0 0 []]]) kz ?_
    repeat (first | refine S0 ?_ | refine S1 ?_ | refine S2 ?_ | refine S4 ?_ | refine S5 ?_ | refine S6 ?_ | refine S7 ?_ | refine S8 ?_ | refine S9 ?_ | refine S10 ?_ | refine S11 ?_ | refine S13 ?_ | refine S15 ?_ | refine S16 ?_ | refine S19 ?_ | refine S20 ?_ | refine S21 ?_ | refine S22 ?_ | refine S23 ?_ | refine S25 ?_ | refine S26 ?_ | refine S28 ?_ | refine S29 ?_ | refine S30 ?_ | refine S33 ?_ | refine S34 ?_ | refine S36 ?_ | refine S37 ?_ | refine S38 ?_ | refine S40 ?_ | refine S41 ?_ | refine S45 ?_ | refine S46 ?_ | refine S48 ?_ | refine S49 ?_ | refine S51 ?_ | refine S54 ?_ | refine S66 ?_ | refine S68 ?_ | refine S69 ?_)
    exact ⟨.inr rfl, .cl rfl⟩
  · rw [h0]
    by_cases h14 : 14 < w.length
    · repeat (first | refine S0 ?_ | refine S1 ?_ | refine S2 ?_ | refine S4 ?_ | refine S5 ?_ | refine S6 ?_ | refine S7 ?_ | refine S8 ?_ | refine S9 ?_ | refine S10 ?_ | refine S11 ?_ | refine S13 ?_ | refine S15 ?_ | refine S16 ?_ | refine S19 ?_ | refine S20 ?_ | refine S21 ?_ | refine S22 ?_ | refine S23 ?_ | refine S25 ?_ | refine S26 ?_ | refine S28 ?_ | refine S29 ?_ | refine S30 ?_ | refine S33 ?_ | refine S34 ?_ | refine S36 ?_ | refine S37 ?_ | refine S38 ?_ | refine S40 ?_ | refine S41 ?_ | refine S45 ?_ | refine S46 ?_ | refine S48 ?_ | refine S49 ?_ | refine S51 ?_ | refine S54 ?_ | refine S66 ?_ | refine S68 ?_ | refine S69 ?_)
      exact ⟨.inr rfl, .cl rfl⟩
    obtain ⟨hn, hl, hw⟩ := bF_wf2 h0
    obtain ⟨N, rfl⟩ : ∃ N : Nat, n = (N : Int) := ⟨n.toNat, by omega⟩
    obtain ⟨tm, hM, kr⟩ := rburau_s (n := N) (by omega) w.length w (Nat.le_refl _) (by omega) hw
    have km := minor_s (by omega) hM kr
    obtain ⟨f, hf1, hf2, kt⟩ := polydet_s (minor_ok hM).m
    have hR : alR N w = nrmW (poW (alL N w)) := by unfold alR; rw [if_pos e1, Int.toNat_natCast]
    have hsup := alL_sup N w (by omega) (by omega)
    have hb := poW_bd hsup (by omega)
    have hbB : (N - 1) * w.length ≤ 5 * 14 := Nat.mul_le_mul (by omega) (by omega)
    have kn := rnormalW_s (f := f) (p := poW (alL N w)) (congrArg cano (funext fun e => by
      have hv : wrp (tv f e) = wrp ((alL N w).f e) := hf1.val e
      rw [← hv, wrp_in (hf2 e)])) (poW_canon _) (poW_64 _) (by omega) (fun e he => by have := hf1.bd e he; omega)
    have hc64 : ∀ x ∈ (nrmW (poW (alL N w))).2, in64 x := fun x hx => by
      obtain ⟨y, _, rfl⟩ := List.mem_map.1 hx
      exact wrp_64 _
    have hcl : (nrmW (poW (alL N w))).2.length ≤ 400 := by
      show ((poW (alL N w)).2.map _).length ≤ 400
      rw [List.length_map]; omega
    have hc0 : (nrmW (poW (alL N w))).1 = 0 := rfl
    have hD : alD N w = (if atV (nrmW (poW (alL N w))).2 (nrmW (poW (alL N w))).2.length < wrp (-(atV (nrmW (poW (alL N w))).2 (nrmW (poW (alL N w))).2.length)) then wrp (-(atV (nrmW (poW (alL N w))).2 (nrmW (poW (alL N w))).2.length)) else atV (nrmW (poW (alL N w))).2 (nrmW (poW (alL N w))).2.length) := by unfold alD; rw [if_pos e1, hR]
    rw [e1, hR] at kp
    rw [e1, hD] at kd
    generalize nrmW (poW (alL N w)) = P at *
    obtain ⟨l0, c⟩ := P
    simp only at hc0 hc64 hcl kd
    subst hc0
    have ks := same_s (0, c) (0, c)
    rw [decide_eq_true rfl] at ks
    obtain ⟨D, hDv⟩ : ∃ D, D = (if atV c c.length < wrp (-(atV c c.length)) then wrp (-(atV c c.length)) else atV c c.length) := ⟨_, rfl⟩
    rw [← hDv] at kd
    clear hD
    obtain ⟨tmm, htmm⟩ : ∃ tmm, tmm = matT (minorT tm) (N - 1) := ⟨_, rfl⟩
    rw [← htmm] at km kt
    repeat (first | refine S0 ?_ | refine S1 ?_ | refine S2 ?_ | refine S4 ?_ | refine S5 ?_ | refine S6 ?_ | refine S7 ?_ | refine S8 ?_ | refine S9 ?_ | refine S10 ?_ | refine S11 ?_ | refine S13 ?_ | refine S15 ?_ | refine S16 ?_ | refine S19 ?_ | refine S20 ?_ | refine S21 ?_ | refine S22 ?_ | refine S23 ?_ | refine S25 ?_ | refine S26 ?_ | refine S28 ?_ | refine S29 ?_ | refine S30 ?_ | refine S33 ?_ | refine S34 ?_ | refine S36 ?_ | refine S37 ?_ | refine S38 ?_ | refine S40 ?_ | refine S41 ?_ | refine S45 ?_ | refine S46 ?_ | refine S48 ?_ | refine S49 ?_ | refine S51 ?_ | refine S54 ?_ | refine S66 ?_ | refine S68 ?_ | refine S69 ?_)
    refine Scall (args := [pint N, pli w]) kp ?_
    repeat (first | refine S0 ?_ | refine S1 ?_ | refine S2 ?_ | refine S4 ?_ | refine S5 ?_ | refine S6 ?_ | refine S7 ?_ | refine S8 ?_ | refine S9 ?_ | refine S10 ?_ | refine S11 ?_ | refine S13 ?_ | refine S15 ?_ | refine S16 ?_ | refine S19 ?_ | refine S20 ?_ | refine S21 ?_ | refine S22 ?_ | refine S23 ?_ | refine S25 ?_ | refine S26 ?_ | refine S28 ?_ | refine S29 ?_ | refine S30 ?_ | refine S33 ?_ | refine S34 ?_ | refine S36 ?_ | refine S37 ?_ | refine S38 ?_ | refine S40 ?_ | refine S41 ?_ | refine S45 ?_ | refine S46 ?_ | refine S48 ?_ | refine S49 ?_ | refine S51 ?_ | refine S54 ?_ | refine S66 ?_ | refine S68 ?_ | refine S69 ?_)
    refine Scall (args := [pint N, pli w]) kd ?_
    repeat (first | refine S0 ?_ | refine S1 ?_ | refine S2 ?_ | refine S4 ?_ | refine S5 ?_ | refine S6 ?_ | refine S7 ?_ | refine S8 ?_ | refine S9 ?_ | refine S10 ?_ | refine S11 ?_ | refine S13 ?_ | refine S15 ?_ | refine S16 ?_ | refine S19 ?_ | refine S20 ?_ | refine S21 ?_ | refine S22 ?_ | refine S23 ?_ | refine S25 ?_ | refine S26 ?_ | refine S28 ?_ | refine S29 ?_ | refine S30 ?_ | refine S33 ?_ | refine S34 ?_ | refine S36 ?_ | refine S37 ?_ | refine S38 ?_ | refine S40 ?_ | refine S41 ?_ | refine S45 ?_ | refine S46 ?_ | refine S48 ?_ | refine S49 ?_ | refine S51 ?_ | refine S54 ?_ | refine S66 ?_ | refine S68 ?_ | refine S69 ?_)
    refine Scall (args := [pint N, pli w]) km ?_
    repeat (first | refine S0 ?_ | refine S1 ?_ | refine S2 ?_ | refine S4 ?_ | refine S5 ?_ | refine S6 ?_ | refine S7 ?_ | refine S8 ?_ | refine S9 ?_ | refine S10 ?_ | refine S11 ?_ | refine S13 ?_ | refine S15 ?_ | refine S16 ?_ | refine S19 ?_ | refine S20 ?_ | refine S21 ?_ | refine S22 ?_ | refine S23 ?_ | refine S25 ?_ | refine S26 ?_ | refine S28 ?_ | refine S29 ?_ | refine S30 ?_ | refine S33 ?_ | refine S34 ?_ | refine S36 ?_ | refine S37 ?_ | refine S38 ?_ | refine S40 ?_ | refine S41 ?_ | refine S45 ?_ | refine S46 ?_ | refine S48 ?_ | refine S49 ?_ | refine S51 ?_ | refine S54 ?_ | refine S66 ?_ | refine S68 ?_ | refine S69 ?_)
    refine Scall (args := [ptmss tmm]) kt ?_
    repeat (first | refine S0 ?_ | refine S1 ?_ | refine S2 ?_ | refine S4 ?_ | refine S5 ?_ | refine S6 ?_ | refine S7 ?_ | refine S8 ?_ | refine S9 ?_ | refine S10 ?_ | refine S11 ?_ | refine S13 ?_ | refine S15 ?_ | refine S16 ?_ | refine S19 ?_ | refine S20 ?_ | refine S21 ?_ | refine S22 ?_ | refine S23 ?_ | refine S25 ?_ | refine S26 ?_ | refine S28 ?_ | refine S29 ?_ | refine S30 ?_ | refine S33 ?_ | refine S34 ?_ | refine S36 ?_ | refine S37 ?_ | refine S38 ?_ | refine S40 ?_ | refine S41 ?_ | refine S45 ?_ | refine S46 ?_ | refine S48 ?_ | refine S49 ?_ | refine S51 ?_ | refine S54 ?_ | refine S66 ?_ | refine S68 ?_ | refine S69 ?_)
    refine Scall (args := [.fmap (mi f)]) kn ?_
    repeat (first | refine S0 ?_ | refine S1 ?_ | refine S2 ?_ | refine S4 ?_ | refine S5 ?_ | refine S6 ?_ | refine S7 ?_ | refine S8 ?_ | refine S9 ?_ | refine S10 ?_ | refine S11 ?_ | refine S13 ?_ | refine S15 ?_ | refine S16 ?_ | refine S19 ?_ | refine S20 ?_ | refine S21 ?_ | refine S22 ?_ | refine S23 ?_ | refine S25 ?_ | refine S26 ?_ | refine S28 ?_ | refine S29 ?_ | refine S30 ?_ | refine S33 ?_ | refine S34 ?_ | refine S36 ?_ | refine S37 ?_ | refine S38 ?_ | refine S40 ?_ | refine S41 ?_ | refine S45 ?_ | refine S46 ?_ | refine S48 ?_ | refine S49 ?_ | refine S51 ?_ | refine S54 ?_ | refine S66 ?_ | refine S68 ?_ | refine S69 ?_)
    refine CW.loopS (fun k : Nat => k ≤ c.length) (fun k => [(8, .ptr 3 0), (10, pint D), (12, .ptr 5 0), (13, pint (atV c k)), (82, pli c), (83, pint c.length), (84, pint k)]) (fun _ hp => hp.blk 3 = some [pint 0, pli c] ∧ hp.blk 5 = some [pint 0, pli c]) (fun k => c.length - k) 0 ⟨Nat.zero_le _, ?_, ⟨rfl, rfl⟩⟩ ?_
    · show allS [(8, .ptr 3 0), (10, pint D), (12, .ptr 5 0), (13, pint 0), (82, pli c), (83, pint c.length), (84, pint ((0 : Nat) : Int))] _
      exact SLx
    rintro k t h hk ⟨b3, b5⟩
    first | simp only [updS] | simp only [updL, Nat.reduceAdd]
    by_cases hk2 : k < c.length
    · have hkm : k % 2 < 2 := Nat.mod_lt _ (by decide)
      have hst := atV_step c hc64 hk2
      obtain ⟨s, hs⟩ : ∃ s, s = atV c k := ⟨_, rfl⟩
      rw [← hs] at hst ⊢
      repeat (first | refine S0 ?_ | refine S1 ?_ | refine S2 ?_ | refine S4 ?_ | refine S5 ?_ | refine S6 ?_ | refine S7 ?_ | refine S8 ?_ | refine S9 ?_ | refine S10 ?_ | refine S11 ?_ | refine S13 ?_ | refine S15 ?_ | refine S16 ?_ | refine S19 ?_ | refine S20 ?_ | refine S21 ?_ | refine S22 ?_ | refine S23 ?_ | refine S25 ?_ | refine S26 ?_ | refine S28 ?_ | refine S29 ?_ | refine S30 ?_ | refine S33 ?_ | refine S34 ?_ | refine S36 ?_ | refine S37 ?_ | refine S38 ?_ | refine S40 ?_ | refine S41 ?_ | refine S45 ?_ | refine S46 ?_ | refine S48 ?_ | refine S49 ?_ | refine S51 ?_ | refine S54 ?_ | refine S66 ?_ | refine S68 ?_ | refine S69 ?_)
      refine AW.binf EVx EVx (bin_and2 k (by omega) _ _ _) ?_
      repeat (first | refine S0 ?_ | refine S1 ?_ | refine S2 ?_ | refine S4 ?_ | refine S5 ?_ | refine S6 ?_ | refine S7 ?_ | refine S8 ?_ | refine S9 ?_ | refine S10 ?_ | refine S11 ?_ | refine S13 ?_ | refine S15 ?_ | refine S16 ?_ | refine S19 ?_ | refine S20 ?_ | refine S21 ?_ | refine S22 ?_ | refine S23 ?_ | refine S25 ?_ | refine S26 ?_ | refine S28 ?_ | refine S29 ?_ | refine S30 ?_ | refine S33 ?_ | refine S34 ?_ | refine S36 ?_ | refine S37 ?_ | refine S38 ?_ | refine S40 ?_ | refine S41 ?_ | refine S45 ?_ | refine S46 ?_ | refine S48 ?_ | refine S49 ?_ | refine S51 ?_ | refine S54 ?_ | refine S66 ?_ | refine S68 ?_ | refine S69 ?_)
      refine AW.mulV EVx EVx ?_
      repeat (first | refine S0 ?_ | refine S1 ?_ | refine S2 ?_ | refine S4 ?_ | refine S5 ?_ | refine S6 ?_ | refine S7 ?_ | refine S8 ?_ | refine S9 ?_ | refine S10 ?_ | refine S11 ?_ | refine S13 ?_ | refine S15 ?_ | refine S16 ?_ | refine S19 ?_ | refine S20 ?_ | refine S21 ?_ | refine S22 ?_ | refine S23 ?_ | refine S25 ?_ | refine S26 ?_ | refine S28 ?_ | refine S29 ?_ | refine S30 ?_ | refine S33 ?_ | refine S34 ?_ | refine S36 ?_ | refine S37 ?_ | refine S38 ?_ | refine S40 ?_ | refine S41 ?_ | refine S45 ?_ | refine S46 ?_ | refine S48 ?_ | refine S49 ?_ | refine S51 ?_ | refine S54 ?_ | refine S66 ?_ | refine S68 ?_ | refine S69 ?_)
      refine AW.addV EVx EVx ?_
      rw [hst]
      repeat (first | refine S0 ?_ | refine S1 ?_ | refine S2 ?_ | refine S4 ?_ | refine S5 ?_ | refine S6 ?_ | refine S7 ?_ | refine S8 ?_ | refine S9 ?_ | refine S10 ?_ | refine S11 ?_ | refine S13 ?_ | refine S15 ?_ | refine S16 ?_ | refine S19 ?_ | refine S20 ?_ | refine S21 ?_ | refine S22 ?_ | refine S23 ?_ | refine S25 ?_ | refine S26 ?_ | refine S28 ?_ | refine S29 ?_ | refine S30 ?_ | refine S33 ?_ | refine S34 ?_ | refine S36 ?_ | refine S37 ?_ | refine S38 ?_ | refine S40 ?_ | refine S41 ?_ | refine S45 ?_ | refine S46 ?_ | refine S48 ?_ | refine S49 ?_ | refine S51 ?_ | refine S54 ?_ | refine S66 ?_ | refine S68 ?_ | refine S69 ?_)
      exact ⟨k + 1, by omega, SLx, ⟨b3, b5⟩, by omega⟩
    · obtain rfl : k = c.length := by omega
      generalize atV c c.length = v at *
      repeat (first | refine S0 ?_ | refine S1 ?_ | refine S2 ?_ | refine S4 ?_ | refine S5 ?_ | refine S6 ?_ | refine S7 ?_ | refine S8 ?_ | refine S9 ?_ | refine S10 ?_ | refine S11 ?_ | refine S13 ?_ | refine S15 ?_ | refine S16 ?_ | refine S19 ?_ | refine S20 ?_ | refine S21 ?_ | refine S22 ?_ | refine S23 ?_ | refine S25 ?_ | refine S26 ?_ | refine S28 ?_ | refine S29 ?_ | refine S30 ?_ | refine S33 ?_ | refine S34 ?_ | refine S36 ?_ | refine S37 ?_ | refine S38 ?_ | refine S40 ?_ | refine S41 ?_ | refine S45 ?_ | refine S46 ?_ | refine S48 ?_ | refine S49 ?_ | refine S51 ?_ | refine S54 ?_ | refine S66 ?_ | refine S68 ?_ | refine S69 ?_)
      refine Scall (args := [ppo (0, c), ppo (0, c)]) ks ?_
      repeat (first | refine S0 ?_ | refine S1 ?_ | refine S2 ?_ | refine S4 ?_ | refine S5 ?_ | refine S6 ?_ | refine S7 ?_ | refine S8 ?_ | refine S9 ?_ | refine S10 ?_ | refine S11 ?_ | refine S13 ?_ | refine S15 ?_ | refine S16 ?_ | refine S19 ?_ | refine S20 ?_ | refine S21 ?_ | refine S22 ?_ | refine S23 ?_ | refine S25 ?_ | refine S26 ?_ | refine S28 ?_ | refine S29 ?_ | refine S30 ?_ | refine S33 ?_ | refine S34 ?_ | refine S36 ?_ | refine S37 ?_ | refine S38 ?_ | refine S40 ?_ | refine S41 ?_ | refine S45 ?_ | refine S46 ?_ | refine S48 ?_ | refine S49 ?_ | refine S51 ?_ | refine S54 ?_ | refine S66 ?_ | refine S68 ?_ | refine S69 ?_)
      refine AW.negV EVx ?_
      repeat (first | refine S0 ?_ | refine S1 ?_ | refine S2 ?_ | refine S4 ?_ | refine S5 ?_ | refine S6 ?_ | refine S7 ?_ | refine S8 ?_ | refine S9 ?_ | refine S10 ?_ | refine S11 ?_ | refine S13 ?_ | refine S15 ?_ | refine S16 ?_ | refine S19 ?_ | refine S20 ?_ | refine S21 ?_ | refine S22 ?_ | refine S23 ?_ | refine S25 ?_ | refine S26 ?_ | refine S28 ?_ | refine S29 ?_ | refine S30 ?_ | refine S33 ?_ | refine S34 ?_ | refine S36 ?_ | refine S37 ?_ | refine S38 ?_ | refine S40 ?_ | refine S41 ?_ | refine S45 ?_ | refine S46 ?_ | refine S48 ?_ | refine S49 ?_ | refine S51 ?_ | refine S54 ?_ | refine S66 ?_ | refine S68 ?_ | refine S69 ?_)
      rw [show decide (D = if v < IntKind.i64.wrap (-v) then IntKind.i64.wrap (-v) else v) = true from decide_eq_true hDv]
      exact ⟨.inr rfl, .cl rfl⟩
end Go.Proofs.Ytenoiklocdoemaa
