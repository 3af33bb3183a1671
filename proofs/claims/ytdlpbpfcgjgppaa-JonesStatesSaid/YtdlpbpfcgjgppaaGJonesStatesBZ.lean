/- Facts and contracts that the claim uses. No condition of its own. -/
import Derived.Test.YtdlpbpfcgjgppaaGJonesStatesBY
import Derived.Test.YtdlpbpfcgjgppaaGJonesStatesBC
set_option linter.unusedVariables false
set_option linter.unusedSimpArgs false
namespace Go.Proofs.Ytdlpbpfcgjgppaa
open Go.RowKit
theorem sameJ_s {p q : Po} {v : PV} (hw : Wea v (pli q.2)) (b : Bool) (hb : b = decide (p = q)) : SC Try.prog 6 [ppo p, .agg [pint q.1, v]] (.sc (.bool b)) := by
  have k := same_s p q
  rw [← hb] at k
  refine k.wk rfl (fun i hi => ?_)
  match i, hi with
  | 0, _ => exact .refl _
  | 1, _ =>
    refine .agg rfl (fun j hj => ?_)
    match j, hj with
    | 0, _ => exact .refl _
    | 1, _ => exact hw
    | j + 2, hj => exact absurd hj (by simp)
  | i + 2, hi => exact absurd hi (by simp)
theorem bits_andI : ∀ b : Fin 64, IntKind.i64.wrap ((BitVec.ofInt IntKind.i64.bits ((b.val : Nat) - 32 : Int) &&& BitVec.ofInt IntKind.i64.bits 1).toNat : Int) = ((b.val : Nat) - 32 : Int) % 2 := by decide +kernel
theorem bin_andI (b : Int) (hb : -32 ≤ b ∧ b < 32) (t : TypeId) (x y : Operand) (w : World) : (do eqGuard .and t x y (.int .i64 b) (.int .i64 1); binOp .and t (.int .i64 b) (.int .i64 1) : Sem Value).run Try.prog w = .ok (.int .i64 (b % 2)) w := by
  have h1 : (eqGuard .and t x y (.int .i64 b) (.int .i64 1)).run Try.prog w = .ok () w := rfl
  rw [Sem.run_bind, h1]
  show Result.ok (Value.int .i64 (IntKind.i64.wrap ((BitVec.ofInt IntKind.i64.bits b &&& BitVec.ofInt IntKind.i64.bits 1).toNat : Int))) w = _
  have := bits_andI ⟨(b + 32).toNat, by omega⟩
  rw [show (((⟨(b + 32).toNat, by omega⟩ : Fin 64).val : Nat) - 32 : Int) = b by simp only; omega] at this
  rw [this]
theorem jnC_eq (s : Int) : jnC s = 1 - 2 * (s % 2) := by unfold jnC; split <;> omega
theorem jone_k : SC Try.prog 5 [pint 2, .lst true 1 1 [pint 1]] (.tup [ppo (3, [-1]), pint 0]) := by
  have h := jbrk_s 2 [1]
  have e : jnF 2 [1] = 0 := by
    have hb : bF 2 [1] = 0 := by decide
    unfold jnF
    rw [if_neg (by rw [hb]; simp), if_neg (by simp)]
  rw [e, if_pos rfl, show ((2 : Int).toNat) = 2 from rfl, jnB_one] at h
  refine h.wk rfl (fun i hi => ?_)
  match i, hi with
  | 0, _ => exact .refl _
  | 1, _ => exact .lst (ds := [pint 1]) rfl (fun j _ => .refl _)
  | i + 2, hi => exact absurd hi (by simp)
set_option maxHeartbeats 16000000 in
set_option maxRecDepth 100000 in
theorem jstates_s (n : Int) (w : List Int) : SC Try.prog 3 [pint n, pli w] (.sc (.bool true)) := by
  have k1 := jone_k
  have k2 := sameJ_s (p := (3, [-1])) (q := (3, [-1])) (v := .lst true 1 1 [pint (-1)]) (.lst (ds := [pint (-1)]) rfl (fun j _ => .refl _)) true (by simp)
  have kf := bfault_s n w
  have kb := jbrk_s n w
  have kp := jpol_s n w
  have kz := sameJ_s (p := (0, [])) (q := (0, [])) (v := .lst true 0 0 []) (.nil _ _ _) true (by simp)
  have hb1 : 0 ≤ bF n w ∧ bF n w ≤ 3 := by unfold bF; repeat' split
                                           all_goals omega
  refine SC.go { pc := [80, 82, 83, 85, 95, 96, 97], fz := [94] } tok mixed Try.func3 rfl rfl Try.ntmps3 rfl rfl (code3_ok (by kernel_rfl)) ?_
  first | simp only [updS] | simp only [updL, Nat.reduceAdd]
  repeat (first | refine S0 ?_ | refine S1 ?_ | refine S2 ?_ | refine S3 ?_ | refine S5 ?_ | refine S7 ?_ | refine S8 ?_ | refine S9 ?_ | refine S15 ?_ | refine S16 ?_ | refine S18 ?_ | refine S19 ?_ | refine S20 ?_ | refine S23 ?_ | refine S28 ?_ | refine S29 ?_ | refine S30 ?_ | refine S33 ?_ | refine S34 ?_ | refine S36 ?_ | refine S37 ?_ | refine S38 ?_ | refine S40 ?_ | refine S41 ?_ | refine S47 ?_ | refine S48 ?_ | refine S49 ?_ | refine S51 ?_ | refine S66 ?_ | refine S68 ?_ | refine S69 ?_ | refine S79 ?_ | refine S82 ?_)
  refine Scall (args := [pint 2, .lst true 1 1 [pint 1]]) k1 ?_
  repeat (first | refine S0 ?_ | refine S1 ?_ | refine S2 ?_ | refine S3 ?_ | refine S5 ?_ | refine S7 ?_ | refine S8 ?_ | refine S9 ?_ | refine S15 ?_ | refine S16 ?_ | refine S18 ?_ | refine S19 ?_ | refine S20 ?_ | refine S23 ?_ | refine S28 ?_ | refine S29 ?_ | refine S30 ?_ | refine S33 ?_ | refine S34 ?_ | refine S36 ?_ | refine S37 ?_ | refine S38 ?_ | refine S40 ?_ | refine S41 ?_ | refine S47 ?_ | refine S48 ?_ | refine S49 ?_ | refine S51 ?_ | refine S66 ?_ | refine S68 ?_ | refine S69 ?_ | refine S79 ?_ | refine S82 ?_)
  refine Scall (args := [ppo (3, [-1]), .agg [pint 3, .lst true 1 1 [pint (-1)]]]) k2 ?_
  repeat (first | refine S0 ?_ | refine S1 ?_ | refine S2 ?_ | refine S3 ?_ | refine S5 ?_ | refine S7 ?_ | refine S8 ?_ | refine S9 ?_ | refine S15 ?_ | refine S16 ?_ | refine S18 ?_ | refine S19 ?_ | refine S20 ?_ | refine S23 ?_ | refine S28 ?_ | refine S29 ?_ | refine S30 ?_ | refine S33 ?_ | refine S34 ?_ | refine S36 ?_ | refine S37 ?_ | refine S38 ?_ | refine S40 ?_ | refine S41 ?_ | refine S47 ?_ | refine S48 ?_ | refine S49 ?_ | refine S51 ?_ | refine S66 ?_ | refine S68 ?_ | refine S69 ?_ | refine S79 ?_ | refine S82 ?_)
  refine Scall (args := [pint n, pli w]) kf ?_
  rcases jnF_cases n w with ⟨h0, e1⟩ | ⟨h0, h1, e1⟩ | ⟨h0, h1, e1⟩
  · rw [e1, if_neg h0] at kb kp
    generalize bF n w = E at *
    repeat (first | refine S0 ?_ | refine S1 ?_ | refine S2 ?_ | refine S3 ?_ | refine S5 ?_ | refine S7 ?_ | refine S8 ?_ | refine S9 ?_ | refine S15 ?_ | refine S16 ?_ | refine S18 ?_ | refine S19 ?_ | refine S20 ?_ | refine S23 ?_ | refine S28 ?_ | refine S29 ?_ | refine S30 ?_ | refine S33 ?_ | refine S34 ?_ | refine S36 ?_ | refine S37 ?_ | refine S38 ?_ | refine S40 ?_ | refine S41 ?_ | refine S47 ?_ | refine S48 ?_ | refine S49 ?_ | refine S51 ?_ | refine S66 ?_ | refine S68 ?_ | refine S69 ?_ | refine S79 ?_ | refine S82 ?_)
    refine Scall (args := [pint n, pli w]) kb ?_
    repeat (first | refine S0 ?_ | refine S1 ?_ | refine S2 ?_ | refine S3 ?_ | refine S5 ?_ | refine S7 ?_ | refine S8 ?_ | refine S9 ?_ | refine S15 ?_ | refine S16 ?_ | refine S18 ?_ | refine S19 ?_ | refine S20 ?_ | refine S23 ?_ | refine S28 ?_ | refine S29 ?_ | refine S30 ?_ | refine S33 ?_ | refine S34 ?_ | refine S36 ?_ | refine S37 ?_ | refine S38 ?_ | refine S40 ?_ | refine S41 ?_ | refine S47 ?_ | refine S48 ?_ | refine S49 ?_ | refine S51 ?_ | refine S66 ?_ | refine S68 ?_ | refine S69 ?_ | refine S79 ?_ | refine S82 ?_)
    refine Scall (args := [pint n, pli w]) kp ?_
    repeat (first | refine S0 ?_ | refine S1 ?_ | refine S2 ?_ | refine S3 ?_ | refine S5 ?_ | refine S7 ?_ | refine S8 ?_ | refine S9 ?_ | refine S15 ?_ | refine S16 ?_ | refine S18 ?_ | refine S19 ?_ | refine S20 ?_ | refine S23 ?_ | refine S28 ?_ | refine S29 ?_ | refine S30 ?_ | refine S33 ?_ | refine S34 ?_ | refine S36 ?_ | refine S37 ?_ | refine S38 ?_ | refine S40 ?_ | refine S41 ?_ | refine S47 ?_ | refine S48 ?_ | refine S49 ?_ | refine S51 ?_ | refine S66 ?_ | refine S68 ?_ | refine S69 ?_ | refine S79 ?_ | refine S82 ?_)
    refine Scall (args := [ppo (0, []), .agg [pint 0, .lst true 0 0 []]]) kz ?_
    repeat (first | refine S0 ?_ | refine S1 ?_ | refine S2 ?_ | refine S3 ?_ | refine S5 ?_ | refine S7 ?_ | refine S8 ?_ | refine S9 ?_ | refine S15 ?_ | refine S16 ?_ | refine S18 ?_ | refine S19 ?_ | refine S20 ?_ | refine S23 ?_ | refine S28 ?_ | refine S29 ?_ | refine S30 ?_ | refine S33 ?_ | refine S34 ?_ | refine S36 ?_ | refine S37 ?_ | refine S38 ?_ | refine S40 ?_ | refine S41 ?_ | refine S47 ?_ | refine S48 ?_ | refine S49 ?_ | refine S51 ?_ | refine S66 ?_ | refine S68 ?_ | refine S69 ?_ | refine S79 ?_ | refine S82 ?_)
    refine Scall (args := [ppo (0, []), .agg [pint 0, .lst true 0 0 []]]) kz ?_
    repeat (first | refine S0 ?_ | refine S1 ?_ | refine S2 ?_ | refine S3 ?_ | refine S5 ?_ | refine S7 ?_ | refine S8 ?_ | refine S9 ?_ | refine S15 ?_ | refine S16 ?_ | refine S18 ?_ | refine S19 ?_ | refine S20 ?_ | refine S23 ?_ | refine S28 ?_ | refine S29 ?_ | refine S30 ?_ | refine S33 ?_ | refine S34 ?_ | refine S36 ?_ | refine S37 ?_ | refine S38 ?_ | refine S40 ?_ | refine S41 ?_ | refine S47 ?_ | refine S48 ?_ | refine S49 ?_ | refine S51 ?_ | refine S66 ?_ | refine S68 ?_ | refine S69 ?_ | refine S79 ?_ | refine S82 ?_)
    exact ⟨.inr rfl, .cl rfl⟩
  · rw [e1, if_neg (by omega)] at kb kp
    rw [h0]
    repeat (first | refine S0 ?_ | refine S1 ?_ | refine S2 ?_ | refine S3 ?_ | refine S5 ?_ | refine S7 ?_ | refine S8 ?_ | refine S9 ?_ | refine S15 ?_ | refine S16 ?_ | refine S18 ?_ | refine S19 ?_ | refine S20 ?_ | refine S23 ?_ | refine S28 ?_ | refine S29 ?_ | refine S30 ?_ | refine S33 ?_ | refine S34 ?_ | refine S36 ?_ | refine S37 ?_ | refine S38 ?_ | refine S40 ?_ | refine S41 ?_ | refine S47 ?_ | refine S48 ?_ | refine S49 ?_ | refine S51 ?_ | refine S66 ?_ | refine S68 ?_ | refine S69 ?_ | refine S79 ?_ | refine S82 ?_)
    refine Scall (args := [pint n, pli w]) kb ?_
    repeat (first | refine S0 ?_ | refine S1 ?_ | refine S2 ?_ | refine S3 ?_ | refine S5 ?_ | refine S7 ?_ | refine S8 ?_ | refine S9 ?_ | refine S15 ?_ | refine S16 ?_ | refine S18 ?_ | refine S19 ?_ | refine S20 ?_ | refine S23 ?_ | refine S28 ?_ | refine S29 ?_ | refine S30 ?_ | refine S33 ?_ | refine S34 ?_ | refine S36 ?_ | refine S37 ?_ | refine S38 ?_ | refine S40 ?_ | refine S41 ?_ | refine S47 ?_ | refine S48 ?_ | refine S49 ?_ | refine S51 ?_ | refine S66 ?_ | refine S68 ?_ | refine S69 ?_ | refine S79 ?_ | refine S82 ?_)
    refine Scall (args := [pint n, pli w]) kp ?_
    repeat (first | refine S0 ?_ | refine S1 ?_ | refine S2 ?_ | refine S3 ?_ | refine S5 ?_ | refine S7 ?_ | refine S8 ?_ | refine S9 ?_ | refine S15 ?_ | refine S16 ?_ | refine S18 ?_ | refine S19 ?_ | refine S20 ?_ | refine S23 ?_ | refine S28 ?_ | refine S29 ?_ | refine S30 ?_ | refine S33 ?_ | refine S34 ?_ | refine S36 ?_ | refine S37 ?_ | refine S38 ?_ | refine S40 ?_ | refine S41 ?_ | refine S47 ?_ | refine S48 ?_ | refine S49 ?_ | refine S51 ?_ | refine S66 ?_ | refine S68 ?_ | refine S69 ?_ | refine S79 ?_ | refine S82 ?_)
    refine Scall (args := [ppo (0, []), .agg [pint 0, .lst true 0 0 []]]) kz ?_
    repeat (first | refine S0 ?_ | refine S1 ?_ | refine S2 ?_ | refine S3 ?_ | refine S5 ?_ | refine S7 ?_ | refine S8 ?_ | refine S9 ?_ | refine S15 ?_ | refine S16 ?_ | refine S18 ?_ | refine S19 ?_ | refine S20 ?_ | refine S23 ?_ | refine S28 ?_ | refine S29 ?_ | refine S30 ?_ | refine S33 ?_ | refine S34 ?_ | refine S36 ?_ | refine S37 ?_ | refine S38 ?_ | refine S40 ?_ | refine S41 ?_ | refine S47 ?_ | refine S48 ?_ | refine S49 ?_ | refine S51 ?_ | refine S66 ?_ | refine S68 ?_ | refine S69 ?_ | refine S79 ?_ | refine S82 ?_)
    refine Scall (args := [ppo (0, []), .agg [pint 0, .lst true 0 0 []]]) kz ?_
    repeat (first | refine S0 ?_ | refine S1 ?_ | refine S2 ?_ | refine S3 ?_ | refine S5 ?_ | refine S7 ?_ | refine S8 ?_ | refine S9 ?_ | refine S15 ?_ | refine S16 ?_ | refine S18 ?_ | refine S19 ?_ | refine S20 ?_ | refine S23 ?_ | refine S28 ?_ | refine S29 ?_ | refine S30 ?_ | refine S33 ?_ | refine S34 ?_ | refine S36 ?_ | refine S37 ?_ | refine S38 ?_ | refine S40 ?_ | refine S41 ?_ | refine S47 ?_ | refine S48 ?_ | refine S49 ?_ | refine S51 ?_ | refine S66 ?_ | refine S68 ?_ | refine S69 ?_ | refine S79 ?_ | refine S82 ?_)
    exact ⟨.inr rfl, .cl rfl⟩
  · rw [e1, if_pos rfl] at kb kp
    rw [h0]
    by_cases h7 : 7 < w.length
    · repeat (first | refine S0 ?_ | refine S1 ?_ | refine S2 ?_ | refine S3 ?_ | refine S5 ?_ | refine S7 ?_ | refine S8 ?_ | refine S9 ?_ | refine S15 ?_ | refine S16 ?_ | refine S18 ?_ | refine S19 ?_ | refine S20 ?_ | refine S23 ?_ | refine S28 ?_ | refine S29 ?_ | refine S30 ?_ | refine S33 ?_ | refine S34 ?_ | refine S36 ?_ | refine S37 ?_ | refine S38 ?_ | refine S40 ?_ | refine S41 ?_ | refine S47 ?_ | refine S48 ?_ | refine S49 ?_ | refine S51 ?_ | refine S66 ?_ | refine S68 ?_ | refine S69 ?_ | refine S79 ?_ | refine S82 ?_)
      exact ⟨.inr rfl, .cl rfl⟩
    obtain ⟨N, rfl, hN, hW⟩ := Wd.of h0
    have hn : 1 ≤ N ∧ N ≤ 6 := ⟨hN, hW.n9⟩
    have hlt := lett_of hW
    rw [Int.toNat_natCast] at kb kp
    have ks := states_s hn hlt (by omega)
    have hsk := smK_ok hn hlt (by omega) (2 ^ w.length)
    rw [← jn_sum] at hsk
    have h64 := smK_64 N w (2 ^ w.length)
    have kwt := weight_s hW
    have hsb := sumTo_bd w w.length
    have kpo := polyW_s hsk h64 (by omega)
    have hsup := jnB_sup hn hlt
    have eP : jnP N w = jnB N w * LP.mono (jnC (sumTo w w.length)) (-3 * sumTo w w.length) := rfl
    rw [eP] at kp
    generalize sumTo w w.length = s at *
    have htm : IsT 200 (fun x => if x = -3 * s then some (jnC s) else none) (LP.mono (jnC s) (-3 * s)) := isT_mono _ _ (by omega)
    have hml := (hsk.mono (C := 300) (by omega)).mul htm (hsup.mono (by omega))
    have km := tmulW_s (smK N w (2 ^ w.length)) (fun x => if x = -3 * s then some (jnC s) else none) 400 (by omega) (fun e he => by have := hsk.bd e he; omega) (fun e he => by have := htm.bd e he; omega)
    have kpm := polyW_s hml (T64.wT _) (by omega)
    have hc := jnC_eq s
    generalize smK N w (2 ^ w.length) = G at *
    generalize jnB N w = B at *
    have kss := same_s (poW B) (poW B)
    rw [decide_eq_true rfl] at kss
    have ksp := same_s (poW (B * LP.mono (jnC s) (-3 * s))) (poW (B * LP.mono (jnC s) (-3 * s)))
    rw [decide_eq_true rfl] at ksp
    repeat (first | refine S0 ?_ | refine S1 ?_ | refine S2 ?_ | refine S3 ?_ | refine S5 ?_ | refine S7 ?_ | refine S8 ?_ | refine S9 ?_ | refine S15 ?_ | refine S16 ?_ | refine S18 ?_ | refine S19 ?_ | refine S20 ?_ | refine S23 ?_ | refine S28 ?_ | refine S29 ?_ | refine S30 ?_ | refine S33 ?_ | refine S34 ?_ | refine S36 ?_ | refine S37 ?_ | refine S38 ?_ | refine S40 ?_ | refine S41 ?_ | refine S47 ?_ | refine S48 ?_ | refine S49 ?_ | refine S51 ?_ | refine S66 ?_ | refine S68 ?_ | refine S69 ?_ | refine S79 ?_ | refine S82 ?_)
    refine Scall (args := [pint N, pli w]) kb ?_
    repeat (first | refine S0 ?_ | refine S1 ?_ | refine S2 ?_ | refine S3 ?_ | refine S5 ?_ | refine S7 ?_ | refine S8 ?_ | refine S9 ?_ | refine S15 ?_ | refine S16 ?_ | refine S18 ?_ | refine S19 ?_ | refine S20 ?_ | refine S23 ?_ | refine S28 ?_ | refine S29 ?_ | refine S30 ?_ | refine S33 ?_ | refine S34 ?_ | refine S36 ?_ | refine S37 ?_ | refine S38 ?_ | refine S40 ?_ | refine S41 ?_ | refine S47 ?_ | refine S48 ?_ | refine S49 ?_ | refine S51 ?_ | refine S66 ?_ | refine S68 ?_ | refine S69 ?_ | refine S79 ?_ | refine S82 ?_)
    refine Scall (args := [pint N, pli w]) kp ?_
    repeat (first | refine S0 ?_ | refine S1 ?_ | refine S2 ?_ | refine S3 ?_ | refine S5 ?_ | refine S7 ?_ | refine S8 ?_ | refine S9 ?_ | refine S15 ?_ | refine S16 ?_ | refine S18 ?_ | refine S19 ?_ | refine S20 ?_ | refine S23 ?_ | refine S28 ?_ | refine S29 ?_ | refine S30 ?_ | refine S33 ?_ | refine S34 ?_ | refine S36 ?_ | refine S37 ?_ | refine S38 ?_ | refine S40 ?_ | refine S41 ?_ | refine S47 ?_ | refine S48 ?_ | refine S49 ?_ | refine S51 ?_ | refine S66 ?_ | refine S68 ?_ | refine S69 ?_ | refine S79 ?_ | refine S82 ?_)
    refine Scall (args := [pint N, pli w]) ks ?_
    repeat (first | refine S0 ?_ | refine S1 ?_ | refine S2 ?_ | refine S3 ?_ | refine S5 ?_ | refine S7 ?_ | refine S8 ?_ | refine S9 ?_ | refine S15 ?_ | refine S16 ?_ | refine S18 ?_ | refine S19 ?_ | refine S20 ?_ | refine S23 ?_ | refine S28 ?_ | refine S29 ?_ | refine S30 ?_ | refine S33 ?_ | refine S34 ?_ | refine S36 ?_ | refine S37 ?_ | refine S38 ?_ | refine S40 ?_ | refine S41 ?_ | refine S47 ?_ | refine S48 ?_ | refine S49 ?_ | refine S51 ?_ | refine S66 ?_ | refine S68 ?_ | refine S69 ?_ | refine S79 ?_ | refine S82 ?_)
    refine Scall (args := [pli w]) kwt ?_
    iterate 3 (first | refine S0 ?_ | refine S1 ?_ | refine S2 ?_ | refine S3 ?_ | refine S5 ?_ | refine S7 ?_ | refine S8 ?_ | refine S9 ?_ | refine S15 ?_ | refine S16 ?_ | refine S18 ?_ | refine S19 ?_ | refine S20 ?_ | refine S23 ?_ | refine S28 ?_ | refine S29 ?_ | refine S30 ?_ | refine S33 ?_ | refine S34 ?_ | refine S36 ?_ | refine S37 ?_ | refine S38 ?_ | refine S40 ?_ | refine S41 ?_ | refine S47 ?_ | refine S48 ?_ | refine S49 ?_ | refine S51 ?_ | refine S66 ?_ | refine S68 ?_ | refine S69 ?_ | refine S79 ?_ | refine S82 ?_)
    refine CW.freezeP 8 (tk := 3) rfl HBx ?_
    refine CW.freezeP 10 (tk := 5) rfl HBx ?_
    repeat (first | refine S0 ?_ | refine S1 ?_ | refine S2 ?_ | refine S3 ?_ | refine S5 ?_ | refine S7 ?_ | refine S8 ?_ | refine S9 ?_ | refine S15 ?_ | refine S16 ?_ | refine S18 ?_ | refine S19 ?_ | refine S20 ?_ | refine S23 ?_ | refine S28 ?_ | refine S29 ?_ | refine S30 ?_ | refine S33 ?_ | refine S34 ?_ | refine S36 ?_ | refine S37 ?_ | refine S38 ?_ | refine S40 ?_ | refine S41 ?_ | refine S47 ?_ | refine S48 ?_ | refine S49 ?_ | refine S51 ?_ | refine S66 ?_ | refine S68 ?_ | refine S69 ?_ | refine S79 ?_ | refine S82 ?_)
    refine Scall (args := [.fmap (mi G)]) kpo ?_
    repeat (first | refine S0 ?_ | refine S1 ?_ | refine S2 ?_ | refine S3 ?_ | refine S5 ?_ | refine S7 ?_ | refine S8 ?_ | refine S9 ?_ | refine S15 ?_ | refine S16 ?_ | refine S18 ?_ | refine S19 ?_ | refine S20 ?_ | refine S23 ?_ | refine S28 ?_ | refine S29 ?_ | refine S30 ?_ | refine S33 ?_ | refine S34 ?_ | refine S36 ?_ | refine S37 ?_ | refine S38 ?_ | refine S40 ?_ | refine S41 ?_ | refine S47 ?_ | refine S48 ?_ | refine S49 ?_ | refine S51 ?_ | refine S66 ?_ | refine S68 ?_ | refine S69 ?_ | refine S79 ?_ | refine S82 ?_)
    refine Scall (args := [ppo (poW B), ppo (poW B)]) kss ?_
    repeat (first | refine S0 ?_ | refine S1 ?_ | refine S2 ?_ | refine S3 ?_ | refine S5 ?_ | refine S7 ?_ | refine S8 ?_ | refine S9 ?_ | refine S15 ?_ | refine S16 ?_ | refine S18 ?_ | refine S19 ?_ | refine S20 ?_ | refine S23 ?_ | refine S28 ?_ | refine S29 ?_ | refine S30 ?_ | refine S33 ?_ | refine S34 ?_ | refine S36 ?_ | refine S37 ?_ | refine S38 ?_ | refine S40 ?_ | refine S41 ?_ | refine S47 ?_ | refine S48 ?_ | refine S49 ?_ | refine S51 ?_ | refine S66 ?_ | refine S68 ?_ | refine S69 ?_ | refine S79 ?_ | refine S82 ?_)
    have hs2 : 0 ≤ s % 2 ∧ s % 2 < 2 := ⟨Int.emod_nonneg _ (by decide), Int.emod_lt_of_pos _ (by decide)⟩
    refine AW.binf EVx EVx (bin_andI s (by omega) _ _ _) ?_
    repeat (first | refine S0 ?_ | refine S1 ?_ | refine S2 ?_ | refine S3 ?_ | refine S5 ?_ | refine S7 ?_ | refine S8 ?_ | refine S9 ?_ | refine S15 ?_ | refine S16 ?_ | refine S18 ?_ | refine S19 ?_ | refine S20 ?_ | refine S23 ?_ | refine S28 ?_ | refine S29 ?_ | refine S30 ?_ | refine S33 ?_ | refine S34 ?_ | refine S36 ?_ | refine S37 ?_ | refine S38 ?_ | refine S40 ?_ | refine S41 ?_ | refine S47 ?_ | refine S48 ?_ | refine S49 ?_ | refine S51 ?_ | refine S66 ?_ | refine S68 ?_ | refine S69 ?_ | refine S79 ?_ | refine S82 ?_)
    rw [← hc]
    refine Scall (args := [.fmap (mi G), .fmap (mi fun x => if x = -3 * s then some (jnC s) else none)]) km ?_
    repeat (first | refine S0 ?_ | refine S1 ?_ | refine S2 ?_ | refine S3 ?_ | refine S5 ?_ | refine S7 ?_ | refine S8 ?_ | refine S9 ?_ | refine S15 ?_ | refine S16 ?_ | refine S18 ?_ | refine S19 ?_ | refine S20 ?_ | refine S23 ?_ | refine S28 ?_ | refine S29 ?_ | refine S30 ?_ | refine S33 ?_ | refine S34 ?_ | refine S36 ?_ | refine S37 ?_ | refine S38 ?_ | refine S40 ?_ | refine S41 ?_ | refine S47 ?_ | refine S48 ?_ | refine S49 ?_ | refine S51 ?_ | refine S66 ?_ | refine S68 ?_ | refine S69 ?_ | refine S79 ?_ | refine S82 ?_)
    refine Scall (args := [.fmap (mi (wT (tmul G fun x => if x = -3 * s then some (jnC s) else none)))]) kpm ?_
    repeat (first | refine S0 ?_ | refine S1 ?_ | refine S2 ?_ | refine S3 ?_ | refine S5 ?_ | refine S7 ?_ | refine S8 ?_ | refine S9 ?_ | refine S15 ?_ | refine S16 ?_ | refine S18 ?_ | refine S19 ?_ | refine S20 ?_ | refine S23 ?_ | refine S28 ?_ | refine S29 ?_ | refine S30 ?_ | refine S33 ?_ | refine S34 ?_ | refine S36 ?_ | refine S37 ?_ | refine S38 ?_ | refine S40 ?_ | refine S41 ?_ | refine S47 ?_ | refine S48 ?_ | refine S49 ?_ | refine S51 ?_ | refine S66 ?_ | refine S68 ?_ | refine S69 ?_ | refine S79 ?_ | refine S82 ?_)
    refine Scall (args := [ppo (poW (B * LP.mono (jnC s) (-3 * s))), ppo (poW (B * LP.mono (jnC s) (-3 * s)))]) ksp ?_
    repeat (first | refine S0 ?_ | refine S1 ?_ | refine S2 ?_ | refine S3 ?_ | refine S5 ?_ | refine S7 ?_ | refine S8 ?_ | refine S9 ?_ | refine S15 ?_ | refine S16 ?_ | refine S18 ?_ | refine S19 ?_ | refine S20 ?_ | refine S23 ?_ | refine S28 ?_ | refine S29 ?_ | refine S30 ?_ | refine S33 ?_ | refine S34 ?_ | refine S36 ?_ | refine S37 ?_ | refine S38 ?_ | refine S40 ?_ | refine S41 ?_ | refine S47 ?_ | refine S48 ?_ | refine S49 ?_ | refine S51 ?_ | refine S66 ?_ | refine S68 ?_ | refine S69 ?_ | refine S79 ?_ | refine S82 ?_)
    exact ⟨.inr rfl, .cl rfl⟩
end Go.Proofs.Ytdlpbpfcgjgppaa
