/- Facts and contracts that the claim uses. No condition of its own. -/
import Derived.Test.YtkmkcbkfakoomaaDoorGRingTextsBP
set_option linter.unusedVariables false
set_option linter.unusedSimpArgs false
namespace Go.Proofs.YtkmkcbkfakoomaaDoor
open Go.RowKit
theorem ixb_any (l : List UInt8) (c : UInt8) : (0 ≤ Lib.indexByte l c) = (l.any (· == c) = true) := by
  induction l with
  | nil => simp [Lib.indexByte]
  | cons b l ih =>
    have hg := Lib.indexByte_ge l c
    unfold Lib.indexByte
    rw [List.any_cons]
    by_cases h : (b == c) = true
    · simp [h]
    · have h' : (b == c) = false := by simpa using h
      rw [h', Bool.false_or, ← ih]
      simp only [Bool.false_eq_true, if_false]
      by_cases h2 : Lib.indexByte l c = -1
      · simp [h2]
      · have h3 : (Lib.indexByte l c == -1) = false := by simpa using h2
        rw [h3]
        simp only [Bool.false_eq_true, if_false]
        exact propext ⟨fun _ => by omega, fun _ => by omega⟩
theorem idxB_s (s : List UInt8) (c : Nat) (hc : c < 256) : SC Tryd.prog 29 [pstr s, .sc (.int .u8 (c : Nat))] (pint (Lib.indexByte s (UInt8.ofNat c))) :=
  SC.flat (args := [.string (bsB s), .int .u8 (c : Nat)]) (callable Tryd.func29 rfl rfl) fun w => (Tryd.strings_IndexByte (bsB s) c w).mono fun e w' ⟨h1, h2⟩ => ⟨by rw [h1, bsB_list]; rfl, by subst h2; exact Below.refl _ _⟩
set_option maxHeartbeats 4000000 in
set_option maxRecDepth 100000 in
theorem stays_s (s : List UInt8) (k : Nat) (hk : k < 100) : SC Tryd.prog 28 [pint k, .lptr [pstr s]] (.sc (.bool (isIn s k))) := by
  have kb := idxB_s s (49 + k) (by omega)
  refine SC.go {} tok mixed Tryd.func28 rfl rfl Tryd.ntmps28 rfl rfl (by kernel_rfl) ?_
  first | simp only [updS] | simp only [updL, Nat.reduceAdd]
  repeat (first | refine S0 ?_ | refine S1 ?_ | refine S2 ?_ | refine S7 ?_ | refine S8 ?_ | refine S19 ?_ | refine S20 ?_ | refine S22 ?_ | refine S26 ?_ | refine S32 ?_)
  refine AW.conv EVx (cv_byte k hk) ?_
  repeat (first | refine S0 ?_ | refine S1 ?_ | refine S2 ?_ | refine S7 ?_ | refine S8 ?_ | refine S19 ?_ | refine S20 ?_ | refine S22 ?_ | refine S26 ?_ | refine S32 ?_)
  refine Scall (args := [pstr s, .sc (.int .u8 (49 + k : Nat))]) kb ?_
  repeat (first | refine S0 ?_ | refine S1 ?_ | refine S2 ?_ | refine S7 ?_ | refine S8 ?_ | refine S19 ?_ | refine S20 ?_ | refine S22 ?_ | refine S26 ?_ | refine S32 ?_)
  have e : decide (0 ≤ Lib.indexByte s (UInt8.ofNat (49 + k))) = isIn s k := by
    unfold isIn
    have := ixb_any s (UInt8.ofNat (49 + k))
    by_cases h : 0 ≤ Lib.indexByte s (UInt8.ofNat (49 + k))
    · rw [decide_eq_true h]; exact (this ▸ h).symm
    · rw [decide_eq_false h]
      cases hh : s.any (· == UInt8.ofNat (49 + k)) with
      | false => rfl
      | true => exact absurd (this.symm ▸ hh) h
  rw [e]
  exact ⟨.inr rfl, .cl rfl⟩
theorem bits_or : ∀ i : Fin 6, ∀ o : Fin 64, o.val < 2 ^ i.val → IntKind.i64.wrap ((BitVec.ofInt IntKind.i64.bits ((o.val : Nat) : Int) ||| BitVec.ofInt IntKind.i64.bits ((2 ^ i.val : Nat) : Int)).toNat : Int) = ((o.val + 2 ^ i.val : Nat) : Int) := by decide +kernel
theorem bor_s (o i : Nat) (hi : i < 6) (ho : o < 2 ^ i) (t : TypeId) (p q : Operand) (w : World) : (do eqGuard .or t p q (.int .i64 o) (.int .i64 ((2 ^ i : Nat) : Int)); binOp .or t (.int .i64 o) (.int .i64 ((2 ^ i : Nat) : Int)) : Sem Value).run Tryd.prog w = .ok (.int .i64 ((o + 2 ^ i : Nat) : Int)) w := by
  have h1 : (eqGuard .or t p q (.int .i64 o) (.int .i64 ((2 ^ i : Nat) : Int))).run Tryd.prog w = .ok () w := rfl
  rw [Sem.run_bind, h1]
  have h64 : o < 64 := Nat.lt_of_lt_of_le ho (by rw [show (64 : Nat) = 2 ^ 6 from rfl]; exact Nat.pow_le_pow_right (by decide) (by omega))
  show Result.ok (Value.int .i64 (IntKind.i64.wrap ((BitVec.ofInt IntKind.i64.bits (o : Int) ||| BitVec.ofInt IntKind.i64.bits ((2 ^ i : Nat) : Int)).toNat : Int))) w = _
  rw [bits_or ⟨i, hi⟩ ⟨o, h64⟩ ho]
set_option maxHeartbeats 4000000 in
set_option maxRecDepth 100000 in
theorem changeOf_s {n : Nat} (hn : 1 ≤ n ∧ n ≤ 7) (s : List UInt8) : SC Tryd.prog 13 [pint n, pstr s] (pint (coL n s : Nat)) := by
  obtain ⟨R, hR⟩ : ∃ R, R = coL n s := ⟨_, rfl⟩
  rw [← hR]
  refine SC.go {} tok mixed Tryd.func13 rfl rfl Tryd.ntmps13 rfl rfl (by kernel_rfl) ?_
  first | simp only [updS] | simp only [updL, Nat.reduceAdd]
  repeat (first | refine S0 ?_ | refine S1 ?_ | refine S2 ?_ | refine S4 ?_ | refine S5 ?_ | refine S6 ?_ | refine S7 ?_ | refine S8 ?_ | refine S10 ?_ | refine S11 ?_ | refine S13 ?_ | refine S15 ?_ | refine S16 ?_ | refine S19 ?_ | refine S20 ?_ | refine S21 ?_ | refine S22 ?_ | refine S33 ?_ | refine S36 ?_ | refine S37 ?_ | refine S38 ?_ | refine S40 ?_ | refine S41 ?_ | refine S56 ?_ | refine S73 ?_)
  refine CW.loopS (fun i : Nat × Nat × Nat => n ≤ i.1 + i.2.1 ∧ i.2.1 ≤ n ∧ coS n (isIn s) i.1 i.2.1 i.2.2 = R ∧ i.2.2 < 2 ^ i.2.1) (fun i => [(0, pint n), (3, .lptr [pstr s]), (5, pint i.2.2), (6, pint i.2.1)]) (fun _ _ => True) (fun i => i.1) (n, 0, 0) ⟨⟨by simp, by simp, hR.symm, by simp⟩, SLx, trivial⟩ ?_
  rintro ⟨f, i, o⟩ t h ⟨hf, hin, hc, ho⟩ _
  simp only at hf hin hc ho
  first | simp only [updS] | simp only [updL, Nat.reduceAdd]
  by_cases hi : i + 1 < n
  · obtain ⟨f, rfl⟩ : ∃ f', f = f' + 1 := ⟨f - 1, by omega⟩
    have ka := stays_s s i (by omega)
    have kb := stays_s s (i + 1) (by omega)
    have hp1 : 2 ^ (i + 1) = 2 * 2 ^ i := by rw [Nat.pow_succ]; omega
    have hp2 : 2 ^ (i + 2) = 4 * 2 ^ i := by rw [Nat.pow_succ, Nat.pow_succ]; omega
    rw [coS, if_pos hi] at hc
    repeat (first | refine S0 ?_ | refine S1 ?_ | refine S2 ?_ | refine S4 ?_ | refine S5 ?_ | refine S6 ?_ | refine S7 ?_ | refine S8 ?_ | refine S10 ?_ | refine S11 ?_ | refine S13 ?_ | refine S15 ?_ | refine S16 ?_ | refine S19 ?_ | refine S20 ?_ | refine S21 ?_ | refine S22 ?_ | refine S33 ?_ | refine S36 ?_ | refine S37 ?_ | refine S38 ?_ | refine S40 ?_ | refine S41 ?_ | refine S56 ?_ | refine S73 ?_)
    refine Scallv (f := 28) (cap := [.lptr [pstr s]]) (args := [pint i, .lptr [pstr s]]) ka ?_
    cases ha : isIn s i with
    | true =>
      rw [if_neg (by rw [ha]; simp)] at hc
      repeat (first | refine S0 ?_ | refine S1 ?_ | refine S2 ?_ | refine S4 ?_ | refine S5 ?_ | refine S6 ?_ | refine S7 ?_ | refine S8 ?_ | refine S10 ?_ | refine S11 ?_ | refine S13 ?_ | refine S15 ?_ | refine S16 ?_ | refine S19 ?_ | refine S20 ?_ | refine S21 ?_ | refine S22 ?_ | refine S33 ?_ | refine S36 ?_ | refine S37 ?_ | refine S38 ?_ | refine S40 ?_ | refine S41 ?_ | refine S56 ?_ | refine S73 ?_)
      exact ⟨(f, i + 1, o), ⟨by simp only; omega, by simp only; omega, hc, by simp only; omega⟩, SLx, trivial, by simp only; omega⟩
    | false =>
      repeat (first | refine S0 ?_ | refine S1 ?_ | refine S2 ?_ | refine S4 ?_ | refine S5 ?_ | refine S6 ?_ | refine S7 ?_ | refine S8 ?_ | refine S10 ?_ | refine S11 ?_ | refine S13 ?_ | refine S15 ?_ | refine S16 ?_ | refine S19 ?_ | refine S20 ?_ | refine S21 ?_ | refine S22 ?_ | refine S33 ?_ | refine S36 ?_ | refine S37 ?_ | refine S38 ?_ | refine S40 ?_ | refine S41 ?_ | refine S56 ?_ | refine S73 ?_)
      refine Scallv (f := 28) (cap := [.lptr [pstr s]]) (args := [pint (i + 1 : Nat), .lptr [pstr s]]) kb ?_
      cases hb : isIn s (i + 1) with
      | true =>
        rw [if_neg (by rw [hb]; simp)] at hc
        repeat (first | refine S0 ?_ | refine S1 ?_ | refine S2 ?_ | refine S4 ?_ | refine S5 ?_ | refine S6 ?_ | refine S7 ?_ | refine S8 ?_ | refine S10 ?_ | refine S11 ?_ | refine S13 ?_ | refine S15 ?_ | refine S16 ?_ | refine S19 ?_ | refine S20 ?_ | refine S21 ?_ | refine S22 ?_ | refine S33 ?_ | refine S36 ?_ | refine S37 ?_ | refine S38 ?_ | refine S40 ?_ | refine S41 ?_ | refine S56 ?_ | refine S73 ?_)
        exact ⟨(f, i + 1, o), ⟨by simp only; omega, by simp only; omega, hc, by simp only; omega⟩, SLx, trivial, by simp only; omega⟩
      | false =>
        rw [if_pos ⟨ha, hb⟩] at hc
        repeat (first | refine S0 ?_ | refine S1 ?_ | refine S2 ?_ | refine S4 ?_ | refine S5 ?_ | refine S6 ?_ | refine S7 ?_ | refine S8 ?_ | refine S10 ?_ | refine S11 ?_ | refine S13 ?_ | refine S15 ?_ | refine S16 ?_ | refine S19 ?_ | refine S20 ?_ | refine S21 ?_ | refine S22 ?_ | refine S33 ?_ | refine S36 ?_ | refine S37 ?_ | refine S38 ?_ | refine S40 ?_ | refine S41 ?_ | refine S56 ?_ | refine S73 ?_)
        refine AW.binf EVx EVx (bin_shl i (by omega) _ _ _) ?_
        repeat (first | refine S0 ?_ | refine S1 ?_ | refine S2 ?_ | refine S4 ?_ | refine S5 ?_ | refine S6 ?_ | refine S7 ?_ | refine S8 ?_ | refine S10 ?_ | refine S11 ?_ | refine S13 ?_ | refine S15 ?_ | refine S16 ?_ | refine S19 ?_ | refine S20 ?_ | refine S21 ?_ | refine S22 ?_ | refine S33 ?_ | refine S36 ?_ | refine S37 ?_ | refine S38 ?_ | refine S40 ?_ | refine S41 ?_ | refine S56 ?_ | refine S73 ?_)
        refine AW.binf EVx EVx (bor_s o i (by omega) ho _ _ _) ?_
        repeat (first | refine S0 ?_ | refine S1 ?_ | refine S2 ?_ | refine S4 ?_ | refine S5 ?_ | refine S6 ?_ | refine S7 ?_ | refine S8 ?_ | refine S10 ?_ | refine S11 ?_ | refine S13 ?_ | refine S15 ?_ | refine S16 ?_ | refine S19 ?_ | refine S20 ?_ | refine S21 ?_ | refine S22 ?_ | refine S33 ?_ | refine S36 ?_ | refine S37 ?_ | refine S38 ?_ | refine S40 ?_ | refine S41 ?_ | refine S56 ?_ | refine S73 ?_)
        exact ⟨(f, i + 2, o + 2 ^ i), ⟨by simp only; omega, by simp only; omega, hc, by simp only; omega⟩, SLx, trivial, by simp only; omega⟩
  · have e := coS_done (st := isIn s) (f := f) (o := o) hi
    rw [e] at hc
    subst hc
    repeat (first | refine S0 ?_ | refine S1 ?_ | refine S2 ?_ | refine S4 ?_ | refine S5 ?_ | refine S6 ?_ | refine S7 ?_ | refine S8 ?_ | refine S10 ?_ | refine S11 ?_ | refine S13 ?_ | refine S15 ?_ | refine S16 ?_ | refine S19 ?_ | refine S20 ?_ | refine S21 ?_ | refine S22 ?_ | refine S33 ?_ | refine S36 ?_ | refine S37 ?_ | refine S38 ?_ | refine S40 ?_ | refine S41 ?_ | refine S56 ?_ | refine S73 ?_)
    exact ⟨.inr rfl, .cl rfl⟩
end Go.Proofs.YtkmkcbkfakoomaaDoor
