/- Facts and contracts that the claim uses. No condition of its own. -/
import Derived.Test.YtdlpbpfcgjgppaaGJonesStatesBT
import Derived.Test.YtdlpbpfcgjgppaaGJonesStatesBV
import Derived.Test.YtdlpbpfcgjgppaaGJonesStatesBW
set_option linter.unusedVariables false
set_option linter.unusedSimpArgs false
namespace Go.Proofs.Ytdlpbpfcgjgppaa
open Go.RowKit
theorem jw64 {z : Int} (h : -9223372036854775808 ≤ z ∧ z ≤ 9223372036854775807) : IntKind.i64.wrap z = z := by
  simp [IntKind.wrap, IntKind.min, IntKind.max, IntKind.signed, IntKind.bits]
  omega
theorem jbin_shr (b r : Nat) (hr : r ≤ 60) (t : TypeId) (x y : Operand) (w : World) : (do eqGuard .shr t x y (.int .i64 b) (.int .i64 r); binOp .shr t (.int .i64 b) (.int .i64 r) : Sem Value).run Try.prog w = .ok (.int .i64 ((b / 2 ^ r : Nat) : Int)) w := by
  have h1 : (eqGuard .shr t x y (.int .i64 b) (.int .i64 r)).run Try.prog w = .ok () w := rfl
  rw [Sem.run_bind, h1]
  have h2 : min r 64 = r := by omega
  have h3 : ¬ ((r : Int) < 0) := by omega
  simp [binOp, Op.shift, IntKind.bits, h2, h3, Int.fdiv_eq_ediv]
theorem jbin_shl (r : Nat) (hr : r ≤ 60) (t : TypeId) (x y : Operand) (w : World) : (do eqGuard .shl t x y (.int .i64 1) (.int .i64 r); binOp .shl t (.int .i64 1) (.int .i64 r) : Sem Value).run Try.prog w = .ok (.int .i64 ((2 ^ r : Nat) : Int)) w := by
  have h1 : (eqGuard .shl t x y (.int .i64 1) (.int .i64 r)).run Try.prog w = .ok () w := rfl
  rw [Sem.run_bind, h1]
  have h2 : min r 64 = r := by omega
  have h3 : ¬ ((r : Int) < 0) := by omega
  have h4 : (2 : Nat) ^ r ≤ 2 ^ 60 := Nat.pow_le_pow_right (by decide) hr
  have e : (1 * 2 ^ r : Int) = ((2 ^ r : Nat) : Int) := by rw [Int.natCast_pow]; simp
  have h5 : IntKind.i64.wrap ((2 ^ r : Nat) : Int) = ((2 ^ r : Nat) : Int) := by
    generalize 2 ^ r = q at h4
    exact jw64 (by omega)
  simp only [binOp, Op.shift, IntKind.bits, h3, if_false, Int.toNat_natCast, h2, Result.andThen_ok]
  rw [e, h5]
  rfl
theorem clL_plis (l : List (List Int)) : PV.cl.clL (l.map pli) = true := clL_mem.2 fun c hc => by
  obtain ⟨x, _, rfl⟩ := List.mem_map.1 hc
  exact pli_cl x
noncomputable def jT (n : Nat) (w : List Int) (s : Nat) : LP := (stB n w (bitF s) w.length).2 * dpow (clD n (stB n w (bitF s) w.length).1 - 1)
theorem sumE_fold (F : List Int → LP) : ∀ L : List StE, sumE F L = (L.map fun e => e.2 * F e.1).foldr (· + ·) 0
  | [] => rfl
  | e :: L => by show e.2 * F e.1 + sumE F L = _; rw [sumE_fold F L]; rfl
theorem jn_sum (n : Nat) (w : List Int) : jnB n w = sumR (jT n w) (2 ^ w.length) := by
  unfold jnB
  rw [sumE_fold, stS_sum n w w.length (fun e => e.2 * dpow (clD n e.1 - 1)), sumB_num]
  refine sumR_congr fun s hs => ?_
  have e : stB n w (fun i => if i < w.length then s.testBit i else false) w.length = stB n w (bitF s) w.length := stB_congr _ fun i hi => if_pos hi
  show _ * _ = _ * _
  simp only [e]
def dT2 : Tm := fun x => if x = -2 then some (-1) else if x = 2 then some (-1) else none
theorem dT2_ok : IsT 2 dT2 dlt := by
  refine ⟨fun e => ?_, fun e he => ?_⟩
  · show wrp (tv dT2 e) = wrp ((LP.mono (-1) (-2)).f e + (LP.mono (-1) 2).f e)
    rw [LP.mono_f, LP.mono_f]
    unfold tv dT2
    by_cases h1 : e = -2
    · subst h1; rfl
    · rw [if_neg h1, if_neg h1]
      by_cases h2 : e = 2
      · subst h2; rfl
      · rw [if_neg h2, if_neg h2]; rfl
  · unfold dT2 at he
    by_cases h1 : e = -2
    · omega
    · rw [if_neg h1] at he
      by_cases h2 : e = 2
      · omega
      · rw [if_neg h2] at he; cases he
theorem bits_and7 : ∀ b : Fin 128, IntKind.i64.wrap ((BitVec.ofInt IntKind.i64.bits ((b.val : Nat) : Int) &&& BitVec.ofInt IntKind.i64.bits 1).toNat : Int) = ((b.val % 2 : Nat) : Int) := by decide +kernel
theorem bin_and7 (b : Nat) (hb : b < 128) (t : TypeId) (x y : Operand) (w : World) : (do eqGuard .and t x y (.int .i64 b) (.int .i64 1); binOp .and t (.int .i64 b) (.int .i64 1) : Sem Value).run Try.prog w = .ok (.int .i64 ((b % 2 : Nat) : Int)) w := by
  have h1 : (eqGuard .and t x y (.int .i64 b) (.int .i64 1)).run Try.prog w = .ok () w := rfl
  rw [Sem.run_bind, h1]
  show Result.ok (Value.int .i64 (IntKind.i64.wrap ((BitVec.ofInt IntKind.i64.bits (b : Int) &&& BitVec.ofInt IntKind.i64.bits 1).toNat : Int))) w = _
  rw [bits_and7 ⟨b, hb⟩]
theorem wtB_bd (w : List Int) (s : Nat → Bool) : ∀ j : Nat, -(j : Int) ≤ wtB w s j ∧ wtB w s j ≤ j
  | 0 => by simp [wtB]
  | j + 1 => by
    have := wtB_bd w s j
    have := chW_cases (w.getD j 0) (s j)
    show -(((j + 1 : Nat)) : Int) ≤ wtB w s j + chW _ _ ∧ _
    show _ ∧ wtB w s j + chW _ _ ≤ _
    omega
noncomputable def lpB (n : Nat) (w : List Int) (s : Nat → Bool) : Nat → Nat
  | 0 => 0
  | j + 1 => lpB n w s j + (putD n (stB n w s j).1 (chM n (w.getD j 0) (s j))).2
theorem stB_lp {n : Nat} {w : List Int} (h : lett n w) (s : Nat → Bool) : ∀ j, j ≤ w.length → ∃ o : Nat → Nat, stB n w s j = (tabN (2 * n) o, LP.mono 1 (wtB w s j) * dpow (lpB n w s j)) ∧ Stk n j (fun k => chM n (w.getD k 0) (s k)) o (lpB n w s j)
  | 0, _ => ⟨oneM n, by show (_, (1 : LP)) = (_, LP.mono 1 0 * 1); rw [LP.mul_one]; rfl, stk_zero _⟩
  | j + 1, hj => by
    obtain ⟨o, e, S⟩ := stB_lp h s j (by omega)
    have hb := chM_mt (lett_get h (show j < w.length by omega)) (s j)
    have ha : Mt n (fnL (tabN (2 * n) o)) := S.mt.congr fun i hi => fnL_tab hi
    obtain ⟨o', l, e2, _, q2, q3⟩ := putD_spec ha hb
    have el : lpB n w s (j + 1) = lpB n w s j + l := by
      show lpB n w s j + (putD n (stB n w s j).1 _).2 = _
      rw [e]
      simp only
      rw [e2]
    refine ⟨o', ?_, by rw [el]; exact stk_step (f := fun k => chM n (w.getD k 0) (s k)) (fun k hk => chM_mt (lett_get h (by omega)) (s k)) (S.congr fun i hi => fnL_tab hi) q2 q3⟩
    show nxS n (stB n w s j) _ _ = _
    unfold nxS
    rw [e, el]
    simp only
    rw [e2]
    simp only
    refine Prod.ext rfl ?_
    show _ = LP.mono 1 (wtB w s j + chW (w.getD j 0) (s j)) * dpow (lpB n w s j + l)
    rw [dpow_add, show LP.mono 1 (wtB w s j + chW (w.getD j 0) (s j)) = LP.mono 1 (wtB w s j) * LP.mono 1 (chW (w.getD j 0) (s j)) by rw [LP.mono_mono]; rfl]
    simp only
    ac_rfl
noncomputable def tmK (e : Int) : Nat → Tm
  | 0 => fun x => if x = e then some 1 else none
  | j + 1 => wT (tmul (tmK e j) dT2)
theorem tmK_ok {e : Int} (he : -7 ≤ e ∧ e ≤ 7) : ∀ j : Nat, IsT (7 + 2 * j) (tmK e j) (LP.mono 1 e * dpow j)
  | 0 => by
    show IsT 7 _ (LP.mono 1 e * 1)
    rw [LP.mul_one]
    exact isT_mono 1 e (by omega)
  | j + 1 => by
    have := (tmK_ok he j).mul dT2_ok (Sup.mul (B := 7) (Sup.monom 1 e (by omega)) (dpow_sup j))
    rw [LP.mul_assoc] at this
    exact this
noncomputable def jKn (n : Nat) (w : List Int) (s : Nat) : Nat := lpB n w (bitF s) w.length + clD n (stB n w (bitF s) w.length).1 - 1
noncomputable def smK (n : Nat) (w : List Int) : Nat → Tm
  | 0 => fun _ => none
  | k + 1 => wT (tplus (smK n w k) (tmK (wtB w (bitF k) w.length) (jKn n w k)) 1)
theorem jKn_bd {n : Nat} {w : List Int} (hn : 1 ≤ n ∧ n ≤ 6) (hw : lett n w) (hl : w.length ≤ 7) (s : Nat) : ∃ o, Stk n w.length (fun k => chM n (w.getD k 0) (bitF s k)) o (lpB n w (bitF s) w.length) ∧ (stB n w (bitF s) w.length).1 = tabN (2 * n) o ∧ jT n w s = LP.mono 1 (wtB w (bitF s) w.length) * dpow (jKn n w s) ∧ lpB n w (bitF s) w.length ≤ 48 ∧ 1 ≤ clD n (tabN (2 * n) o) ∧ clD n (tabN (2 * n) o) ≤ 12 := by
  obtain ⟨o, e, S⟩ := stB_lp hw (bitF s) w.length (Nat.le_refl _)
  have hc := clD_bd hn.1 (vd_tab S.mt)
  refine ⟨o, S, by rw [e], ?_, ?_, hc.1, by omega⟩
  · unfold jT jKn
    rw [e]
    simp only
    rw [LP.mul_assoc, ← dpow_add, Nat.add_sub_assoc hc.1]
  · have h1 := S.cnt
    have : sN (fun x => ind (joinA id (ppK n (fun k => chM n (w.getD k 0) (bitF s k)) w.length) x = x)) (n * (w.length + 1)) ≤ n * (w.length + 1) := by
      rw [← rts_len]
      unfold rts
      exact Nat.le_trans (List.length_filter_le _ _) (by simp)
    have h2 : n * (w.length + 1) ≤ 6 * 8 := Nat.mul_le_mul hn.2 (by omega)
    omega
theorem smK_ok {n : Nat} {w : List Int} (hn : 1 ≤ n ∧ n ≤ 6) (hw : lett n w) (hl : w.length ≤ 7) : ∀ k : Nat, IsT 200 (smK n w k) (sumR (jT n w) k)
  | 0 => isT_none
  | k + 1 => by
    obtain ⟨o, _, e1, e2, h1, h2, h3⟩ := jKn_bd hn hw hl k
    have hb := wtB_bd w (bitF k) w.length
    have ht := (tmK_ok (e := wtB w (bitF k) w.length) (by omega) (jKn n w k)).mono (C := 200) (by unfold jKn; rw [e1]; omega)
    rw [← e2] at ht
    have := (smK_ok hn hw hl k).plus ht 1
    rw [LP.smul_one] at this
    exact this
theorem smK_64 (n : Nat) (w : List Int) : ∀ k : Nat, T64 (smK n w k)
  | 0 => fun e => by show in64 0; unfold in64; omega
  | k + 1 => T64.wT _
set_option maxHeartbeats 32000000 in
set_option maxRecDepth 100000 in
theorem states_s {n : Nat} {w : List Int} (hn : 1 ≤ n ∧ n ≤ 6) (hw : lett n w) (hl : w.length ≤ 7) : SC Try.prog 9 [pint n, pli w] (.fmap (mi (smK n w (2 ^ w.length)))) := by
  have h2m : 2 ^ w.length ≤ 128 := Nat.le_trans (Nat.pow_le_pow_right (by decide) hl) (by decide)
  have kS := jstr_s hn
  refine SC.go { fz := [71, 82] } tok mixed Try.func9 rfl rfl Try.ntmps9 rfl rfl (by kernel_rfl) ?_
  first | simp only [updS] | simp only [updL, Nat.reduceAdd]
  repeat (first | refine S0 ?_ | refine S1 ?_ | refine S2 ?_ | refine S4 ?_ | refine S5 ?_ | refine S6 ?_ | refine S7 ?_ | refine S8 ?_ | refine S10 ?_ | refine S11 ?_ | refine S13 ?_ | refine S15 ?_ | refine S16 ?_ | refine S18 ?_ | refine S19 ?_ | refine S20 ?_ | refine S21 ?_ | refine S22 ?_ | refine S23 ?_ | refine S25 ?_ | refine S26 ?_ | refine S28 ?_ | refine S30 ?_ | refine S33 ?_ | refine S34 ?_ | refine S49 ?_ | refine S52 ?_ | refine S63 ?_ | refine S75 ?_ | refine S79 ?_ | refine S82 ?_)
  refine AW.binf EVx EVx (jbin_shl w.length (by omega) _ _ _) ?_
  repeat (first | refine S0 ?_ | refine S1 ?_ | refine S2 ?_ | refine S4 ?_ | refine S5 ?_ | refine S6 ?_ | refine S7 ?_ | refine S8 ?_ | refine S10 ?_ | refine S11 ?_ | refine S13 ?_ | refine S15 ?_ | refine S16 ?_ | refine S18 ?_ | refine S19 ?_ | refine S20 ?_ | refine S21 ?_ | refine S22 ?_ | refine S23 ?_ | refine S25 ?_ | refine S26 ?_ | refine S28 ?_ | refine S30 ?_ | refine S33 ?_ | refine S34 ?_ | refine S49 ?_ | refine S52 ?_ | refine S63 ?_ | refine S75 ?_ | refine S79 ?_ | refine S82 ?_)
  refine CW.freezeM 5 (tk := 1) (m := mi fun _ => none) rfl rfl ?_
  refine CW.loopS (fun k : Nat => k ≤ 2 ^ w.length) (fun k => [(0, pint n), (1, pli w), (5, .fmap (mi (smK n w k))), (17, pint (2 ^ w.length : Nat)), (18, pint k)]) (fun _ _ => True) (fun k => 2 ^ w.length - k) 0 ⟨Nat.zero_le _, SLx, trivial⟩ ?_
  rintro k t hp hk _
  first | simp only [updS] | simp only [updL, Nat.reduceAdd]
  by_cases hk2 : k < 2 ^ w.length
  · obtain ⟨o, S, e1, e2, b1, b2, b3⟩ := jKn_bd hn hw hl k
    have hk128 : k < 128 := by omega
    have hsk : IsT 200 (smK n w k) (sumR (jT n w) k) := smK_ok hn hw hl k
    have hsn : smK n w (k + 1) = wT (tplus (smK n w k) (tmK (wtB w (bitF k) w.length) (jKn n w k)) 1) := rfl
    have hwb := wtB_bd w (bitF k) w.length
    have eK : jKn n w k = lpB n w (bitF k) w.length + clD n (tabN (2 * n) o) - 1 := by unfold jKn; rw [e1]
    obtain ⟨f, hf⟩ : ∃ f : Nat → Nat → Nat, f = fun j => chM n (w.getD j 0) (bitF k j) := ⟨_, rfl⟩
    have hfM : ∀ j, j < w.length → Mt n (f j) := fun j hj => by rw [hf]; exact chM_mt (lett_get hw hj) _
    rw [← hf] at S
    repeat (first | refine S0 ?_ | refine S1 ?_ | refine S2 ?_ | refine S4 ?_ | refine S5 ?_ | refine S6 ?_ | refine S7 ?_ | refine S8 ?_ | refine S10 ?_ | refine S11 ?_ | refine S13 ?_ | refine S15 ?_ | refine S16 ?_ | refine S18 ?_ | refine S19 ?_ | refine S20 ?_ | refine S21 ?_ | refine S22 ?_ | refine S23 ?_ | refine S25 ?_ | refine S26 ?_ | refine S28 ?_ | refine S30 ?_ | refine S33 ?_ | refine S34 ?_ | refine S49 ?_ | refine S52 ?_ | refine S63 ?_ | refine S75 ?_ | refine S79 ?_ | refine S82 ?_)
    refine CW.own 7 1 rfl ?_
    refine CW.loopS (fun i : Nat × Nat => i.1 ≤ w.length ∧ i.2 % 2 = 0) (fun i => [(0, pint n), (1, pli w), (5, .fmap (mi (smK n w k))), (17, pint (2 ^ w.length : Nat)), (18, pint k), (6, pint k), (7, .ref i.2 0 1 i.1), (8, pint (wtB w (bitF k) i.1)), (21, pli w), (22, pint w.length), (23, pint i.1)])
      (fun i h => h.blk i.2 = some ((tabS n f i.1).map pli) ∧ i.2 < 2 * h.next) (fun i => w.length - i.1) (0, 2 * hp.next) ⟨⟨Nat.zero_le _, by simp only; omega⟩, SLx, HBx, (by first | omega | (simp only [HP.tokF, HP.tokT, HP.next_add, HP.next_set, HP.next_kill, HP.next_H0, HP.next_addS, HP.next_setS, HP.next_killS, HP.next_put, HP.next_bump, HP.next_putS]; omega))⟩ ?_
    clear hp t
    rintro ⟨i, T⟩ t hp ⟨hi, hT2⟩ ⟨hB, hTl⟩
    simp only at hi hT2 hB hTl
    first | simp only [updS] | simp only [updL, Nat.reduceAdd]
    have htl : (tabS n f i).length = i := by simp [tabS]
    by_cases hi2 : i < w.length
    · have hlx := lett_get hw hi2
      have hts : tabS n f (i + 1) = tabS n f i ++ [tabN (2 * n) (f i)] := by unfold tabS; rw [List.range_succ, List.map_append]; rfl
      have hbi := wtB_bd w (bitF k) i
      have hwn : wtB w (bitF k) (i + 1) = wtB w (bitF k) i + chW (w.getD i 0) (bitF k i) := rfl
      have hfi : f i = chM n (w.getD i 0) (bitF k i) := by rw [hf]
      have hbit : bitF k i = decide (k / 2 ^ i % 2 = 1) := by unfold bitF; exact Nat.testBit_eq_decide_div_mod_eq
      have hdl : k / 2 ^ i < 128 := Nat.lt_of_le_of_lt (Nat.div_le_self _ _) hk128
      have hmod : k / 2 ^ i % 2 < 2 := Nat.mod_lt _ (by decide)
      generalize hx : w.getD i 0 = x at *
      generalize wtB w (bitF k) i = W at *
      repeat (first | refine S0 ?_ | refine S1 ?_ | refine S2 ?_ | refine S4 ?_ | refine S5 ?_ | refine S6 ?_ | refine S7 ?_ | refine S8 ?_ | refine S10 ?_ | refine S11 ?_ | refine S13 ?_ | refine S15 ?_ | refine S16 ?_ | refine S18 ?_ | refine S19 ?_ | refine S20 ?_ | refine S21 ?_ | refine S22 ?_ | refine S23 ?_ | refine S25 ?_ | refine S26 ?_ | refine S28 ?_ | refine S30 ?_ | refine S33 ?_ | refine S34 ?_ | refine S49 ?_ | refine S52 ?_ | refine S63 ?_ | refine S75 ?_ | refine S79 ?_ | refine S82 ?_)
      refine AW.binf EVx EVx (jbin_shr k i (by omega) _ _ _) ?_
      repeat (first | refine S0 ?_ | refine S1 ?_ | refine S2 ?_ | refine S4 ?_ | refine S5 ?_ | refine S6 ?_ | refine S7 ?_ | refine S8 ?_ | refine S10 ?_ | refine S11 ?_ | refine S13 ?_ | refine S15 ?_ | refine S16 ?_ | refine S18 ?_ | refine S19 ?_ | refine S20 ?_ | refine S21 ?_ | refine S22 ?_ | refine S23 ?_ | refine S25 ?_ | refine S26 ?_ | refine S28 ?_ | refine S30 ?_ | refine S33 ?_ | refine S34 ?_ | refine S49 ?_ | refine S52 ?_ | refine S63 ?_ | refine S75 ?_ | refine S79 ?_ | refine S82 ?_)
      refine AW.binf EVx EVx (bin_and7 (k / 2 ^ i) hdl _ _ _) ?_
      generalize k / 2 ^ i % 2 = B at *
      rw [hx]
      have hx0 : x ≠ 0 := fun e => hlx.1 (by rw [e]; rfl)
      have hxa : -9000000000000000000 ≤ x ∧ x ≤ 9000000000000000000 := by omega
      have kI := rindex_s x hxa
      have kH := jhook_s (n := n) (i := x.natAbs) hn.2 (by omega)
      rcases (show B = 0 ∨ B = 1 by omega) with rfl | rfl
      · have hb0 : bitF k i = false := by rw [hbit]; rfl
        rw [hb0] at hwn hfi
        have hfe : tabN (2 * n) (f i) = tabN (2 * n) (oneM n) := by rw [hfi]; rfl
        by_cases c : 0 < x
        · have hv : absI x = x := by unfold absI; rw [if_neg (by omega)]
          have hq : x / x = 1 := Int.ediv_self hx0
          have hcw : chW x false = 1 := by unfold chW; simp [c]
          rw [hcw] at hwn
          rw [hv] at kI
          repeat (first | refine S0 ?_ | refine S1 ?_ | refine S2 ?_ | refine S4 ?_ | refine S5 ?_ | refine S6 ?_ | refine S7 ?_ | refine S8 ?_ | refine S10 ?_ | refine S11 ?_ | refine S13 ?_ | refine S15 ?_ | refine S16 ?_ | refine S18 ?_ | refine S19 ?_ | refine S20 ?_ | refine S21 ?_ | refine S22 ?_ | refine S23 ?_ | refine S25 ?_ | refine S26 ?_ | refine S28 ?_ | refine S30 ?_ | refine S33 ?_ | refine S34 ?_ | refine S49 ?_ | refine S52 ?_ | refine S63 ?_ | refine S75 ?_ | refine S79 ?_ | refine S82 ?_)
          refine Scall (args := [pint n]) kS ?_
          repeat (first | refine S0 ?_ | refine S1 ?_ | refine S2 ?_ | refine S4 ?_ | refine S5 ?_ | refine S6 ?_ | refine S7 ?_ | refine S8 ?_ | refine S10 ?_ | refine S11 ?_ | refine S13 ?_ | refine S15 ?_ | refine S16 ?_ | refine S18 ?_ | refine S19 ?_ | refine S20 ?_ | refine S21 ?_ | refine S22 ?_ | refine S23 ?_ | refine S25 ?_ | refine S26 ?_ | refine S28 ?_ | refine S30 ?_ | refine S33 ?_ | refine S34 ?_ | refine S49 ?_ | refine S52 ?_ | refine S63 ?_ | refine S75 ?_ | refine S79 ?_ | refine S82 ?_)
          refine Scall (args := [pint x]) kI ?_
          repeat (first | refine S0 ?_ | refine S1 ?_ | refine S2 ?_ | refine S4 ?_ | refine S5 ?_ | refine S6 ?_ | refine S7 ?_ | refine S8 ?_ | refine S10 ?_ | refine S11 ?_ | refine S13 ?_ | refine S15 ?_ | refine S16 ?_ | refine S18 ?_ | refine S19 ?_ | refine S20 ?_ | refine S21 ?_ | refine S22 ?_ | refine S23 ?_ | refine S25 ?_ | refine S26 ?_ | refine S28 ?_ | refine S30 ?_ | refine S33 ?_ | refine S34 ?_ | refine S49 ?_ | refine S52 ?_ | refine S63 ?_ | refine S75 ?_ | refine S79 ?_ | refine S82 ?_)
          rw [hq]
          refine ⟨(i + 1, 2 * hp.next), ⟨hi2, by simp only; omega⟩, ?_, ⟨?_, (by first | omega | (simp only [HP.tokF, HP.tokT, HP.next_add, HP.next_set, HP.next_kill, HP.next_H0, HP.next_addS, HP.next_setS, HP.next_killS, HP.next_put, HP.next_bump, HP.next_putS]; omega))⟩, by simp only; omega⟩
          · simp only
            rw [hwn]
            exact SLx
          · simp only
            rw [hts, hfe]
            exact HBx
        · have hv : absI x = -x := by unfold absI; rw [if_pos (by omega)]
          have hq : x.tdiv (-x) = -1 := by rw [Int.tdiv_neg, Int.tdiv_self hx0]
          have hcw : chW x false = -1 := by unfold chW; simp [c]
          rw [hcw] at hwn
          rw [hv] at kI
          repeat (first | refine S0 ?_ | refine S1 ?_ | refine S2 ?_ | refine S4 ?_ | refine S5 ?_ | refine S6 ?_ | refine S7 ?_ | refine S8 ?_ | refine S10 ?_ | refine S11 ?_ | refine S13 ?_ | refine S15 ?_ | refine S16 ?_ | refine S18 ?_ | refine S19 ?_ | refine S20 ?_ | refine S21 ?_ | refine S22 ?_ | refine S23 ?_ | refine S25 ?_ | refine S26 ?_ | refine S28 ?_ | refine S30 ?_ | refine S33 ?_ | refine S34 ?_ | refine S49 ?_ | refine S52 ?_ | refine S63 ?_ | refine S75 ?_ | refine S79 ?_ | refine S82 ?_)
          refine Scall (args := [pint n]) kS ?_
          repeat (first | refine S0 ?_ | refine S1 ?_ | refine S2 ?_ | refine S4 ?_ | refine S5 ?_ | refine S6 ?_ | refine S7 ?_ | refine S8 ?_ | refine S10 ?_ | refine S11 ?_ | refine S13 ?_ | refine S15 ?_ | refine S16 ?_ | refine S18 ?_ | refine S19 ?_ | refine S20 ?_ | refine S21 ?_ | refine S22 ?_ | refine S23 ?_ | refine S25 ?_ | refine S26 ?_ | refine S28 ?_ | refine S30 ?_ | refine S33 ?_ | refine S34 ?_ | refine S49 ?_ | refine S52 ?_ | refine S63 ?_ | refine S75 ?_ | refine S79 ?_ | refine S82 ?_)
          refine Scall (args := [pint x]) kI ?_
          repeat (first | refine S0 ?_ | refine S1 ?_ | refine S2 ?_ | refine S4 ?_ | refine S5 ?_ | refine S6 ?_ | refine S7 ?_ | refine S8 ?_ | refine S10 ?_ | refine S11 ?_ | refine S13 ?_ | refine S15 ?_ | refine S16 ?_ | refine S18 ?_ | refine S19 ?_ | refine S20 ?_ | refine S21 ?_ | refine S22 ?_ | refine S23 ?_ | refine S25 ?_ | refine S26 ?_ | refine S28 ?_ | refine S30 ?_ | refine S33 ?_ | refine S34 ?_ | refine S49 ?_ | refine S52 ?_ | refine S63 ?_ | refine S75 ?_ | refine S79 ?_ | refine S82 ?_)
          rw [hq]
          refine ⟨(i + 1, 2 * hp.next), ⟨hi2, by simp only; omega⟩, ?_, ⟨?_, (by first | omega | (simp only [HP.tokF, HP.tokT, HP.next_add, HP.next_set, HP.next_kill, HP.next_H0, HP.next_addS, HP.next_setS, HP.next_killS, HP.next_put, HP.next_bump, HP.next_putS]; omega))⟩, by simp only; omega⟩
          · simp only
            rw [hwn]
            exact SLx
          · simp only
            rw [hts, hfe]
            exact HBx
      · have hb0 : bitF k i = true := by rw [hbit]; rfl
        rw [hb0] at hwn hfi
        have hfe : tabN (2 * n) (f i) = tabN (2 * n) (cupM n (x.natAbs - 1)) := by rw [hfi]; rfl
        by_cases c : 0 < x
        · have hv : absI x = x := by unfold absI; rw [if_neg (by omega)]
          have hq : x / x = 1 := Int.ediv_self hx0
          have hcw : chW x true = -1 := by unfold chW; simp [c]
          rw [hcw] at hwn
          rw [hv] at kI
          have kIn : SC Try.prog 30 [pint x] (pint x.natAbs) := Eq.mp (congrArg (fun z => SC Try.prog 30 [pint x] (pint z)) (show (x : Int) = ((x.natAbs : Nat) : Int) by omega)) kI
          repeat (first | refine S0 ?_ | refine S1 ?_ | refine S2 ?_ | refine S4 ?_ | refine S5 ?_ | refine S6 ?_ | refine S7 ?_ | refine S8 ?_ | refine S10 ?_ | refine S11 ?_ | refine S13 ?_ | refine S15 ?_ | refine S16 ?_ | refine S18 ?_ | refine S19 ?_ | refine S20 ?_ | refine S21 ?_ | refine S22 ?_ | refine S23 ?_ | refine S25 ?_ | refine S26 ?_ | refine S28 ?_ | refine S30 ?_ | refine S33 ?_ | refine S34 ?_ | refine S49 ?_ | refine S52 ?_ | refine S63 ?_ | refine S75 ?_ | refine S79 ?_ | refine S82 ?_)
          refine Scall (args := [pint x]) kIn ?_
          repeat (first | refine S0 ?_ | refine S1 ?_ | refine S2 ?_ | refine S4 ?_ | refine S5 ?_ | refine S6 ?_ | refine S7 ?_ | refine S8 ?_ | refine S10 ?_ | refine S11 ?_ | refine S13 ?_ | refine S15 ?_ | refine S16 ?_ | refine S18 ?_ | refine S19 ?_ | refine S20 ?_ | refine S21 ?_ | refine S22 ?_ | refine S23 ?_ | refine S25 ?_ | refine S26 ?_ | refine S28 ?_ | refine S30 ?_ | refine S33 ?_ | refine S34 ?_ | refine S49 ?_ | refine S52 ?_ | refine S63 ?_ | refine S75 ?_ | refine S79 ?_ | refine S82 ?_)
          refine Scall (args := [pint n, pint x.natAbs]) kH ?_
          repeat (first | refine S0 ?_ | refine S1 ?_ | refine S2 ?_ | refine S4 ?_ | refine S5 ?_ | refine S6 ?_ | refine S7 ?_ | refine S8 ?_ | refine S10 ?_ | refine S11 ?_ | refine S13 ?_ | refine S15 ?_ | refine S16 ?_ | refine S18 ?_ | refine S19 ?_ | refine S20 ?_ | refine S21 ?_ | refine S22 ?_ | refine S23 ?_ | refine S25 ?_ | refine S26 ?_ | refine S28 ?_ | refine S30 ?_ | refine S33 ?_ | refine S34 ?_ | refine S49 ?_ | refine S52 ?_ | refine S63 ?_ | refine S75 ?_ | refine S79 ?_ | refine S82 ?_)
          refine Scall (args := [pint x]) kI ?_
          repeat (first | refine S0 ?_ | refine S1 ?_ | refine S2 ?_ | refine S4 ?_ | refine S5 ?_ | refine S6 ?_ | refine S7 ?_ | refine S8 ?_ | refine S10 ?_ | refine S11 ?_ | refine S13 ?_ | refine S15 ?_ | refine S16 ?_ | refine S18 ?_ | refine S19 ?_ | refine S20 ?_ | refine S21 ?_ | refine S22 ?_ | refine S23 ?_ | refine S25 ?_ | refine S26 ?_ | refine S28 ?_ | refine S30 ?_ | refine S33 ?_ | refine S34 ?_ | refine S49 ?_ | refine S52 ?_ | refine S63 ?_ | refine S75 ?_ | refine S79 ?_ | refine S82 ?_)
          rw [hq]
          rw [show W - 1 = W + -1 by omega]
          refine ⟨(i + 1, 2 * hp.next), ⟨hi2, by simp only; omega⟩, ?_, ⟨?_, (by first | omega | (simp only [HP.tokF, HP.tokT, HP.next_add, HP.next_set, HP.next_kill, HP.next_H0, HP.next_addS, HP.next_setS, HP.next_killS, HP.next_put, HP.next_bump, HP.next_putS]; omega))⟩, by simp only; omega⟩
          · simp only
            rw [hwn]
            exact SLx
          · simp only
            rw [hts, hfe]
            exact HBx
        · have hv : absI x = -x := by unfold absI; rw [if_pos (by omega)]
          have hq : x.tdiv (-x) = -1 := by rw [Int.tdiv_neg, Int.tdiv_self hx0]
          have hcw : chW x true = 1 := by unfold chW; simp [c]
          rw [hcw] at hwn
          rw [hv] at kI
          have kIn : SC Try.prog 30 [pint x] (pint x.natAbs) := Eq.mp (congrArg (fun z => SC Try.prog 30 [pint x] (pint z)) (show (-x : Int) = ((x.natAbs : Nat) : Int) by omega)) kI
          repeat (first | refine S0 ?_ | refine S1 ?_ | refine S2 ?_ | refine S4 ?_ | refine S5 ?_ | refine S6 ?_ | refine S7 ?_ | refine S8 ?_ | refine S10 ?_ | refine S11 ?_ | refine S13 ?_ | refine S15 ?_ | refine S16 ?_ | refine S18 ?_ | refine S19 ?_ | refine S20 ?_ | refine S21 ?_ | refine S22 ?_ | refine S23 ?_ | refine S25 ?_ | refine S26 ?_ | refine S28 ?_ | refine S30 ?_ | refine S33 ?_ | refine S34 ?_ | refine S49 ?_ | refine S52 ?_ | refine S63 ?_ | refine S75 ?_ | refine S79 ?_ | refine S82 ?_)
          refine Scall (args := [pint x]) kIn ?_
          repeat (first | refine S0 ?_ | refine S1 ?_ | refine S2 ?_ | refine S4 ?_ | refine S5 ?_ | refine S6 ?_ | refine S7 ?_ | refine S8 ?_ | refine S10 ?_ | refine S11 ?_ | refine S13 ?_ | refine S15 ?_ | refine S16 ?_ | refine S18 ?_ | refine S19 ?_ | refine S20 ?_ | refine S21 ?_ | refine S22 ?_ | refine S23 ?_ | refine S25 ?_ | refine S26 ?_ | refine S28 ?_ | refine S30 ?_ | refine S33 ?_ | refine S34 ?_ | refine S49 ?_ | refine S52 ?_ | refine S63 ?_ | refine S75 ?_ | refine S79 ?_ | refine S82 ?_)
          refine Scall (args := [pint n, pint x.natAbs]) kH ?_
          repeat (first | refine S0 ?_ | refine S1 ?_ | refine S2 ?_ | refine S4 ?_ | refine S5 ?_ | refine S6 ?_ | refine S7 ?_ | refine S8 ?_ | refine S10 ?_ | refine S11 ?_ | refine S13 ?_ | refine S15 ?_ | refine S16 ?_ | refine S18 ?_ | refine S19 ?_ | refine S20 ?_ | refine S21 ?_ | refine S22 ?_ | refine S23 ?_ | refine S25 ?_ | refine S26 ?_ | refine S28 ?_ | refine S30 ?_ | refine S33 ?_ | refine S34 ?_ | refine S49 ?_ | refine S52 ?_ | refine S63 ?_ | refine S75 ?_ | refine S79 ?_ | refine S82 ?_)
          refine Scall (args := [pint x]) kI ?_
          repeat (first | refine S0 ?_ | refine S1 ?_ | refine S2 ?_ | refine S4 ?_ | refine S5 ?_ | refine S6 ?_ | refine S7 ?_ | refine S8 ?_ | refine S10 ?_ | refine S11 ?_ | refine S13 ?_ | refine S15 ?_ | refine S16 ?_ | refine S18 ?_ | refine S19 ?_ | refine S20 ?_ | refine S21 ?_ | refine S22 ?_ | refine S23 ?_ | refine S25 ?_ | refine S26 ?_ | refine S28 ?_ | refine S30 ?_ | refine S33 ?_ | refine S34 ?_ | refine S49 ?_ | refine S52 ?_ | refine S63 ?_ | refine S75 ?_ | refine S79 ?_ | refine S82 ?_)
          rw [hq]
          rw [show W - -1 = W + 1 by omega]
          refine ⟨(i + 1, 2 * hp.next), ⟨hi2, by simp only; omega⟩, ?_, ⟨?_, (by first | omega | (simp only [HP.tokF, HP.tokT, HP.next_add, HP.next_set, HP.next_kill, HP.next_H0, HP.next_addS, HP.next_setS, HP.next_killS, HP.next_put, HP.next_bump, HP.next_putS]; omega))⟩, by simp only; omega⟩
          · simp only
            rw [hwn]
            exact SLx
          · simp only
            rw [hts, hfe]
            exact HBx
    · obtain hiw : i = w.length := by omega
      subst hiw
      have hclD : clD n (tabN (2 * n) o) = sN (fun x => ind (joinA id (prsC n (fnL (tabN (2 * n) o))) x = x)) (2 * n) := rfl
      have kC := circles_s (n := n) (by omega) (vd_tab S.mt).1
      rw [← hclD, ← (vd_tab S.mt).2] at kC
      have kK := stack_s (cl := false) hn (by omega) hfM rfl (ppK_ok hfM) S.key S.cnt
      generalize lpB n w (bitF k) w.length = cc at *
      generalize clD n (tabN (2 * n) o) = q at *
      refine CW.freeze 7 (tk := T) (off := 0) (sz := 1) (m := w.length) (v := .lst false 1 w.length ((tabS n f w.length).map pli)) rfl hB (by simp [htl]) (by rw [List.drop_zero, Nat.mul_one, List.take_of_length_le (by simp [htl])]) ?_
      obtain ⟨W, hW⟩ : ∃ W, W = wtB w (bitF k) w.length := ⟨_, rfl⟩
      rw [← hW] at hwb hsn ⊢
      have hz : w.length = 0 → tabN (2 * n) (oneM n) = tabN (2 * n) o ∧ cc = 0 := fun e => by
        rw [e] at S
        obtain ⟨u1, u2⟩ := S.uniq (stk_zero f)
        exact ⟨(tab_ext u1).symm, u2⟩
      repeat (first | refine S0 ?_ | refine S1 ?_ | refine S2 ?_ | refine S4 ?_ | refine S5 ?_ | refine S6 ?_ | refine S7 ?_ | refine S8 ?_ | refine S10 ?_ | refine S11 ?_ | refine S13 ?_ | refine S15 ?_ | refine S16 ?_ | refine S18 ?_ | refine S19 ?_ | refine S20 ?_ | refine S21 ?_ | refine S22 ?_ | refine S23 ?_ | refine S25 ?_ | refine S26 ?_ | refine S28 ?_ | refine S30 ?_ | refine S33 ?_ | refine S34 ?_ | refine S49 ?_ | refine S52 ?_ | refine S63 ?_ | refine S75 ?_ | refine S79 ?_ | refine S82 ?_)
      refine Scall (args := [pint n]) kS ?_
      iterate 5 (first | refine S0 ?_ | refine S1 ?_ | refine S2 ?_ | refine S4 ?_ | refine S5 ?_ | refine S6 ?_ | refine S7 ?_ | refine S8 ?_ | refine S10 ?_ | refine S11 ?_ | refine S13 ?_ | refine S15 ?_ | refine S16 ?_ | refine S18 ?_ | refine S19 ?_ | refine S20 ?_ | refine S21 ?_ | refine S22 ?_ | refine S23 ?_ | refine S25 ?_ | refine S26 ?_ | refine S28 ?_ | refine S30 ?_ | refine S33 ?_ | refine S34 ?_ | refine S49 ?_ | refine S52 ?_ | refine S63 ?_ | refine S75 ?_ | refine S79 ?_ | refine S82 ?_)
      refine CW.midS (fun _ : Unit => True) (fun _ => [(0, pint n), (5, .fmap (mi (smK n w k))), (17, pint (2 ^ w.length : Nat)), (18, pint k), (1, pli w), (8, pint W), (11, pli (tabN (2 * n) o)), (12, pint cc)]) (fun _ _ => True) ?_ ?_
      · by_cases h0 : w.length = 0
        · obtain ⟨z1, z2⟩ := hz h0
          rw [z1]
          subst z2
          repeat (first | refine S0 ?_ | refine S1 ?_ | refine S2 ?_ | refine S4 ?_ | refine S5 ?_ | refine S6 ?_ | refine S7 ?_ | refine S8 ?_ | refine S10 ?_ | refine S11 ?_ | refine S13 ?_ | refine S15 ?_ | refine S16 ?_ | refine S18 ?_ | refine S19 ?_ | refine S20 ?_ | refine S21 ?_ | refine S22 ?_ | refine S23 ?_ | refine S25 ?_ | refine S26 ?_ | refine S28 ?_ | refine S30 ?_ | refine S33 ?_ | refine S34 ?_ | refine S49 ?_ | refine S52 ?_ | refine S63 ?_ | refine S75 ?_ | refine S79 ?_ | refine S82 ?_)
          exact ⟨(), trivial, SLx, trivial⟩
        · repeat (first | refine S0 ?_ | refine S1 ?_ | refine S2 ?_ | refine S4 ?_ | refine S5 ?_ | refine S6 ?_ | refine S7 ?_ | refine S8 ?_ | refine S10 ?_ | refine S11 ?_ | refine S13 ?_ | refine S15 ?_ | refine S16 ?_ | refine S18 ?_ | refine S19 ?_ | refine S20 ?_ | refine S21 ?_ | refine S22 ?_ | refine S23 ?_ | refine S25 ?_ | refine S26 ?_ | refine S28 ?_ | refine S30 ?_ | refine S33 ?_ | refine S34 ?_ | refine S49 ?_ | refine S52 ?_ | refine S63 ?_ | refine S75 ?_ | refine S79 ?_ | refine S82 ?_)
          refine Scall (args := [pint n, .lst false 1 w.length ((tabS n f w.length).map pli)]) kK ?_ (hc := by simp only [PV.cl.clL, PV.cl, clL_plis]; rfl)
          repeat (first | refine S0 ?_ | refine S1 ?_ | refine S2 ?_ | refine S4 ?_ | refine S5 ?_ | refine S6 ?_ | refine S7 ?_ | refine S8 ?_ | refine S10 ?_ | refine S11 ?_ | refine S13 ?_ | refine S15 ?_ | refine S16 ?_ | refine S18 ?_ | refine S19 ?_ | refine S20 ?_ | refine S21 ?_ | refine S22 ?_ | refine S23 ?_ | refine S25 ?_ | refine S26 ?_ | refine S28 ?_ | refine S30 ?_ | refine S33 ?_ | refine S34 ?_ | refine S49 ?_ | refine S52 ?_ | refine S63 ?_ | refine S75 ?_ | refine S79 ?_ | refine S82 ?_)
          exact ⟨(), trivial, SLx, trivial⟩
      clear hB hTl hp t
      rintro _ t hp _ _
      first | simp only [updS] | simp only [updL, Nat.reduceAdd]
      repeat (first | refine S0 ?_ | refine S1 ?_ | refine S2 ?_ | refine S4 ?_ | refine S5 ?_ | refine S6 ?_ | refine S7 ?_ | refine S8 ?_ | refine S10 ?_ | refine S11 ?_ | refine S13 ?_ | refine S15 ?_ | refine S16 ?_ | refine S18 ?_ | refine S19 ?_ | refine S20 ?_ | refine S21 ?_ | refine S22 ?_ | refine S23 ?_ | refine S25 ?_ | refine S26 ?_ | refine S28 ?_ | refine S30 ?_ | refine S33 ?_ | refine S34 ?_ | refine S49 ?_ | refine S52 ?_ | refine S63 ?_ | refine S75 ?_ | refine S79 ?_ | refine S82 ?_)
      refine Scall (args := [pint n, pli (tabN (2 * n) o)]) kC ?_
      repeat (first | refine S0 ?_ | refine S1 ?_ | refine S2 ?_ | refine S4 ?_ | refine S5 ?_ | refine S6 ?_ | refine S7 ?_ | refine S8 ?_ | refine S10 ?_ | refine S11 ?_ | refine S13 ?_ | refine S15 ?_ | refine S16 ?_ | refine S18 ?_ | refine S19 ?_ | refine S20 ?_ | refine S21 ?_ | refine S22 ?_ | refine S23 ?_ | refine S25 ?_ | refine S26 ?_ | refine S28 ?_ | refine S30 ?_ | refine S33 ?_ | refine S34 ?_ | refine S49 ?_ | refine S52 ?_ | refine S63 ?_ | refine S75 ?_ | refine S79 ?_ | refine S82 ?_)
      rw [show ((cc : Nat) : Int) + ((q : Nat) : Int) - 1 = ((jKn n w k : Nat) : Int) by omega]
      obtain ⟨K, hK⟩ : ∃ K, K = jKn n w k := ⟨_, rfl⟩
      rw [← hK] at hsn eK ⊢
      refine CW.loopS (fun j : Nat => j ≤ K) (fun j => [(0, pint n), (5, .fmap (mi (smK n w k))), (17, pint (2 ^ w.length : Nat)), (18, pint k), (1, pli w), (13, .fmap (mi (tmK W j))), (77, pint K), (78, pint j)]) (fun _ _ => True) (fun j => K - j) 0 ⟨Nat.zero_le _, SLx, trivial⟩ ?_
      clear hp t
      rintro j t hp hj _
      first | simp only [updS] | simp only [updL, Nat.reduceAdd]
      have htk := tmK_ok (e := W) (by omega) j
      by_cases hj2 : j < K
      · have km := tmulW_s (tmK W j) dT2 200 (by omega) (fun e he => by have := htk.bd e he; omega) (fun e he => by have := dT2_ok.bd e he; omega)
        rw [show wT (tmul (tmK W j) dT2) = tmK W (j + 1) from rfl] at km
        repeat (first | refine S0 ?_ | refine S1 ?_ | refine S2 ?_ | refine S4 ?_ | refine S5 ?_ | refine S6 ?_ | refine S7 ?_ | refine S8 ?_ | refine S10 ?_ | refine S11 ?_ | refine S13 ?_ | refine S15 ?_ | refine S16 ?_ | refine S18 ?_ | refine S19 ?_ | refine S20 ?_ | refine S21 ?_ | refine S22 ?_ | refine S23 ?_ | refine S25 ?_ | refine S26 ?_ | refine S28 ?_ | refine S30 ?_ | refine S33 ?_ | refine S34 ?_ | refine S49 ?_ | refine S52 ?_ | refine S63 ?_ | refine S75 ?_ | refine S79 ?_ | refine S82 ?_)
        refine Scall (args := [.fmap (mi (tmK W j)), .fmap (mi dT2)]) km ?_
        repeat (first | refine S0 ?_ | refine S1 ?_ | refine S2 ?_ | refine S4 ?_ | refine S5 ?_ | refine S6 ?_ | refine S7 ?_ | refine S8 ?_ | refine S10 ?_ | refine S11 ?_ | refine S13 ?_ | refine S15 ?_ | refine S16 ?_ | refine S18 ?_ | refine S19 ?_ | refine S20 ?_ | refine S21 ?_ | refine S22 ?_ | refine S23 ?_ | refine S25 ?_ | refine S26 ?_ | refine S28 ?_ | refine S30 ?_ | refine S33 ?_ | refine S34 ?_ | refine S49 ?_ | refine S52 ?_ | refine S63 ?_ | refine S75 ?_ | refine S79 ?_ | refine S82 ?_)
        exact ⟨j + 1, hj2, SLx, trivial, by omega⟩
      · obtain hjK : j = K := by omega
        subst hjK
        have kp := tplusW_s (smK n w k) (tmK W j) 1 200 hsk.bd (fun e he => by have := htk.bd e he; omega)
        rw [← hsn] at kp
        repeat (first | refine S0 ?_ | refine S1 ?_ | refine S2 ?_ | refine S4 ?_ | refine S5 ?_ | refine S6 ?_ | refine S7 ?_ | refine S8 ?_ | refine S10 ?_ | refine S11 ?_ | refine S13 ?_ | refine S15 ?_ | refine S16 ?_ | refine S18 ?_ | refine S19 ?_ | refine S20 ?_ | refine S21 ?_ | refine S22 ?_ | refine S23 ?_ | refine S25 ?_ | refine S26 ?_ | refine S28 ?_ | refine S30 ?_ | refine S33 ?_ | refine S34 ?_ | refine S49 ?_ | refine S52 ?_ | refine S63 ?_ | refine S75 ?_ | refine S79 ?_ | refine S82 ?_)
        refine Scall (args := [.fmap (mi (smK n w k)), .fmap (mi (tmK W j)), pint 1]) kp ?_
        repeat (first | refine S0 ?_ | refine S1 ?_ | refine S2 ?_ | refine S4 ?_ | refine S5 ?_ | refine S6 ?_ | refine S7 ?_ | refine S8 ?_ | refine S10 ?_ | refine S11 ?_ | refine S13 ?_ | refine S15 ?_ | refine S16 ?_ | refine S18 ?_ | refine S19 ?_ | refine S20 ?_ | refine S21 ?_ | refine S22 ?_ | refine S23 ?_ | refine S25 ?_ | refine S26 ?_ | refine S28 ?_ | refine S30 ?_ | refine S33 ?_ | refine S34 ?_ | refine S49 ?_ | refine S52 ?_ | refine S63 ?_ | refine S75 ?_ | refine S79 ?_ | refine S82 ?_)
        exact ⟨k + 1, hk2, SLx, trivial, by omega⟩
  · obtain rfl : k = 2 ^ w.length := by omega
    repeat (first | refine S0 ?_ | refine S1 ?_ | refine S2 ?_ | refine S4 ?_ | refine S5 ?_ | refine S6 ?_ | refine S7 ?_ | refine S8 ?_ | refine S10 ?_ | refine S11 ?_ | refine S13 ?_ | refine S15 ?_ | refine S16 ?_ | refine S18 ?_ | refine S19 ?_ | refine S20 ?_ | refine S21 ?_ | refine S22 ?_ | refine S23 ?_ | refine S25 ?_ | refine S26 ?_ | refine S28 ?_ | refine S30 ?_ | refine S33 ?_ | refine S34 ?_ | refine S49 ?_ | refine S52 ?_ | refine S63 ?_ | refine S75 ?_ | refine S79 ?_ | refine S82 ?_)
    exact ⟨.inr rfl, .cl rfl⟩
end Go.Proofs.Ytdlpbpfcgjgppaa
