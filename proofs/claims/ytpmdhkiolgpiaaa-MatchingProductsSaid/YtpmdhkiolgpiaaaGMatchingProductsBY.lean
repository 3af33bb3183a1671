/- The reference's MatchingFault (written by genMtA.py). No condition of its own. -/
import Derived.Test.YtpmdhkiolgpiaaaGMatchingProductsBW
set_option linter.unusedVariables false
set_option linter.unusedSimpArgs false
namespace Go.Proofs.Ytpmdhkiolgpiaaa
open Go.RowKit

set_option maxHeartbeats 16000000 in
set_option maxRecDepth 100000 in
theorem mfault_t (n : Int) (d : List Int) : SC Try.prog 7 [pint n, pli d] (pint (matF n d)) := by
  refine SC.go {} tok mixed Try.func7 rfl rfl Try.ntmps7 rfl rfl (by kernel_rfl) ?_
  first | simp only [updS] | simp only [updL, Nat.reduceAdd]
  unfold matF
  by_cases h1 : n < 1
  · rw [if_pos (.inl h1)]
    repeat (first | refine S0 ?_ | refine S1 ?_ | refine S2 ?_ | refine S3 ?_ | refine S4 ?_ | refine S5 ?_ | refine S6 ?_ | refine S7 ?_ | refine S8 ?_ | refine S9 ?_ | refine S10 ?_ | refine S11 ?_ | refine S12 ?_ | refine S13 ?_ | refine S15 ?_ | refine S16 ?_ | refine S19 ?_ | refine S20 ?_ | refine S21 ?_ | refine S22 ?_ | refine S23 ?_ | refine S24 ?_ | refine S25 ?_ | refine S26 ?_ | refine S27 ?_ | refine S28 ?_ | refine S29 ?_ | refine S30 ?_ | refine S32 ?_ | refine S33 ?_ | refine S37 ?_ | refine S38 ?_ | refine S40 ?_ | refine S41 ?_ | refine S46 ?_ | refine S49 ?_ | refine S51 ?_ | refine S63 ?_)
    exact ⟨.inr rfl, .cl rfl⟩
  by_cases h2 : 6 < n
  · rw [if_pos (.inr h2)]
    repeat (first | refine S0 ?_ | refine S1 ?_ | refine S2 ?_ | refine S3 ?_ | refine S4 ?_ | refine S5 ?_ | refine S6 ?_ | refine S7 ?_ | refine S8 ?_ | refine S9 ?_ | refine S10 ?_ | refine S11 ?_ | refine S12 ?_ | refine S13 ?_ | refine S15 ?_ | refine S16 ?_ | refine S19 ?_ | refine S20 ?_ | refine S21 ?_ | refine S22 ?_ | refine S23 ?_ | refine S24 ?_ | refine S25 ?_ | refine S26 ?_ | refine S27 ?_ | refine S28 ?_ | refine S29 ?_ | refine S30 ?_ | refine S32 ?_ | refine S33 ?_ | refine S37 ?_ | refine S38 ?_ | refine S40 ?_ | refine S41 ?_ | refine S46 ?_ | refine S49 ?_ | refine S51 ?_ | refine S63 ?_)
    exact ⟨.inr rfl, .cl rfl⟩
  rw [if_neg (by omega)]
  by_cases hl : (d.length : Int) ≠ 2 * n
  · rw [if_pos hl]
    repeat (first | refine S0 ?_ | refine S1 ?_ | refine S2 ?_ | refine S3 ?_ | refine S4 ?_ | refine S5 ?_ | refine S6 ?_ | refine S7 ?_ | refine S8 ?_ | refine S9 ?_ | refine S10 ?_ | refine S11 ?_ | refine S12 ?_ | refine S13 ?_ | refine S15 ?_ | refine S16 ?_ | refine S19 ?_ | refine S20 ?_ | refine S21 ?_ | refine S22 ?_ | refine S23 ?_ | refine S24 ?_ | refine S25 ?_ | refine S26 ?_ | refine S27 ?_ | refine S28 ?_ | refine S29 ?_ | refine S30 ?_ | refine S32 ?_ | refine S33 ?_ | refine S37 ?_ | refine S38 ?_ | refine S40 ?_ | refine S41 ?_ | refine S46 ?_ | refine S49 ?_ | refine S51 ?_ | refine S63 ?_)
    exact ⟨.inr rfl, .cl rfl⟩
  rw [if_neg hl]
  obtain ⟨n, rfl⟩ : ∃ N : Nat, n = (N : Int) := ⟨n.toNat, by omega⟩
  rw [Int.toNat_natCast]
  repeat (first | refine S0 ?_ | refine S1 ?_ | refine S2 ?_ | refine S3 ?_ | refine S4 ?_ | refine S5 ?_ | refine S6 ?_ | refine S7 ?_ | refine S8 ?_ | refine S9 ?_ | refine S10 ?_ | refine S11 ?_ | refine S12 ?_ | refine S13 ?_ | refine S15 ?_ | refine S16 ?_ | refine S19 ?_ | refine S20 ?_ | refine S21 ?_ | refine S22 ?_ | refine S23 ?_ | refine S24 ?_ | refine S25 ?_ | refine S26 ?_ | refine S27 ?_ | refine S28 ?_ | refine S29 ?_ | refine S30 ?_ | refine S32 ?_ | refine S33 ?_ | refine S37 ?_ | refine S38 ?_ | refine S40 ?_ | refine S41 ?_ | refine S46 ?_ | refine S49 ?_ | refine S51 ?_ | refine S63 ?_)
  refine CW.loopS (fun i : Nat => i ≤ d.length ∧ ∀ j, j < i → bdm d j = false) (fun i => [(0, pint n), (1, pli d), (22, pli d), (23, pint d.length), (24, pint i)]) (fun _ _ => True) (fun i => d.length - i) 0 ⟨⟨Nat.zero_le _, fun j hj => absurd hj (Nat.not_lt_zero _)⟩, SLx, trivial⟩ ?_
  rintro i t hp ⟨hi, hall⟩ _
  first | simp only [updS] | simp only [updL, Nat.reduceAdd]
  by_cases hi2 : i < d.length
  · by_cases c1 : d.getD i 0 < 0
    · rw [any_hit hi2 (show bdm d i = true by unfold bdm; simp only [c1, decide_true, Bool.true_or, Bool.or_true]), if_pos rfl]
      repeat (first | refine S0 ?_ | refine S1 ?_ | refine S2 ?_ | refine S3 ?_ | refine S4 ?_ | refine S5 ?_ | refine S6 ?_ | refine S7 ?_ | refine S8 ?_ | refine S9 ?_ | refine S10 ?_ | refine S11 ?_ | refine S12 ?_ | refine S13 ?_ | refine S15 ?_ | refine S16 ?_ | refine S19 ?_ | refine S20 ?_ | refine S21 ?_ | refine S22 ?_ | refine S23 ?_ | refine S24 ?_ | refine S25 ?_ | refine S26 ?_ | refine S27 ?_ | refine S28 ?_ | refine S29 ?_ | refine S30 ?_ | refine S32 ?_ | refine S33 ?_ | refine S37 ?_ | refine S38 ?_ | refine S40 ?_ | refine S41 ?_ | refine S46 ?_ | refine S49 ?_ | refine S51 ?_ | refine S63 ?_)
      exact ⟨.inr rfl, .cl rfl⟩
    by_cases c2 : (d.length : Int) ≤ d.getD i 0
    · rw [any_hit hi2 (show bdm d i = true by unfold bdm; simp only [c2, decide_true, Bool.true_or, Bool.or_true]), if_pos rfl]
      repeat (first | refine S0 ?_ | refine S1 ?_ | refine S2 ?_ | refine S3 ?_ | refine S4 ?_ | refine S5 ?_ | refine S6 ?_ | refine S7 ?_ | refine S8 ?_ | refine S9 ?_ | refine S10 ?_ | refine S11 ?_ | refine S12 ?_ | refine S13 ?_ | refine S15 ?_ | refine S16 ?_ | refine S19 ?_ | refine S20 ?_ | refine S21 ?_ | refine S22 ?_ | refine S23 ?_ | refine S24 ?_ | refine S25 ?_ | refine S26 ?_ | refine S27 ?_ | refine S28 ?_ | refine S29 ?_ | refine S30 ?_ | refine S32 ?_ | refine S33 ?_ | refine S37 ?_ | refine S38 ?_ | refine S40 ?_ | refine S41 ?_ | refine S46 ?_ | refine S49 ?_ | refine S51 ?_ | refine S63 ?_)
      exact ⟨.inr rfl, .cl rfl⟩
    by_cases c3 : d.getD i 0 = i
    · rw [any_hit hi2 (show bdm d i = true by unfold bdm; simp only [c3, decide_true, Bool.true_or, Bool.or_true]), if_pos rfl]
      repeat (first | refine S0 ?_ | refine S1 ?_ | refine S2 ?_ | refine S3 ?_ | refine S4 ?_ | refine S5 ?_ | refine S6 ?_ | refine S7 ?_ | refine S8 ?_ | refine S9 ?_ | refine S10 ?_ | refine S11 ?_ | refine S12 ?_ | refine S13 ?_ | refine S15 ?_ | refine S16 ?_ | refine S19 ?_ | refine S20 ?_ | refine S21 ?_ | refine S22 ?_ | refine S23 ?_ | refine S24 ?_ | refine S25 ?_ | refine S26 ?_ | refine S27 ?_ | refine S28 ?_ | refine S29 ?_ | refine S30 ?_ | refine S32 ?_ | refine S33 ?_ | refine S37 ?_ | refine S38 ?_ | refine S40 ?_ | refine S41 ?_ | refine S46 ?_ | refine S49 ?_ | refine S51 ?_ | refine S63 ?_)
      exact ⟨.inr rfl, .cl rfl⟩
    by_cases c4 : d.getD (d.getD i 0).toNat 0 = i
    · have hb : bdm d i = false := by unfold bdm; simp only [c1, c2, c3, c4, decide_false, ne_eq, not_true_eq_false, Bool.or_false]
      repeat (first | refine S0 ?_ | refine S1 ?_ | refine S2 ?_ | refine S3 ?_ | refine S4 ?_ | refine S5 ?_ | refine S6 ?_ | refine S7 ?_ | refine S8 ?_ | refine S9 ?_ | refine S10 ?_ | refine S11 ?_ | refine S12 ?_ | refine S13 ?_ | refine S15 ?_ | refine S16 ?_ | refine S19 ?_ | refine S20 ?_ | refine S21 ?_ | refine S22 ?_ | refine S23 ?_ | refine S24 ?_ | refine S25 ?_ | refine S26 ?_ | refine S27 ?_ | refine S28 ?_ | refine S29 ?_ | refine S30 ?_ | refine S32 ?_ | refine S33 ?_ | refine S37 ?_ | refine S38 ?_ | refine S40 ?_ | refine S41 ?_ | refine S46 ?_ | refine S49 ?_ | refine S51 ?_ | refine S63 ?_)
      exact ⟨i + 1, ⟨hi2, fun j hj => by rcases Nat.lt_succ_iff_lt_or_eq.1 hj with h | rfl; exact hall j h; exact hb⟩, SLx, trivial, by omega⟩
    · rw [any_hit hi2 (show bdm d i = true by unfold bdm; simp only [ne_eq, c4, not_false_eq_true, decide_true, Bool.true_or, Bool.or_true]), if_pos rfl]
      repeat (first | refine S0 ?_ | refine S1 ?_ | refine S2 ?_ | refine S3 ?_ | refine S4 ?_ | refine S5 ?_ | refine S6 ?_ | refine S7 ?_ | refine S8 ?_ | refine S9 ?_ | refine S10 ?_ | refine S11 ?_ | refine S12 ?_ | refine S13 ?_ | refine S15 ?_ | refine S16 ?_ | refine S19 ?_ | refine S20 ?_ | refine S21 ?_ | refine S22 ?_ | refine S23 ?_ | refine S24 ?_ | refine S25 ?_ | refine S26 ?_ | refine S27 ?_ | refine S28 ?_ | refine S29 ?_ | refine S30 ?_ | refine S32 ?_ | refine S33 ?_ | refine S37 ?_ | refine S38 ?_ | refine S40 ?_ | refine S41 ?_ | refine S46 ?_ | refine S49 ?_ | refine S51 ?_ | refine S63 ?_)
      exact ⟨.inr rfl, .cl rfl⟩
  · obtain rfl : i = d.length := by omega
    rw [any_no hall, if_neg (by simp)]
    clear hall
    repeat (first | refine S0 ?_ | refine S1 ?_ | refine S2 ?_ | refine S3 ?_ | refine S4 ?_ | refine S5 ?_ | refine S6 ?_ | refine S7 ?_ | refine S8 ?_ | refine S9 ?_ | refine S10 ?_ | refine S11 ?_ | refine S12 ?_ | refine S13 ?_ | refine S15 ?_ | refine S16 ?_ | refine S19 ?_ | refine S20 ?_ | refine S21 ?_ | refine S22 ?_ | refine S23 ?_ | refine S24 ?_ | refine S25 ?_ | refine S26 ?_ | refine S27 ?_ | refine S28 ?_ | refine S29 ?_ | refine S30 ?_ | refine S32 ?_ | refine S33 ?_ | refine S37 ?_ | refine S38 ?_ | refine S40 ?_ | refine S41 ?_ | refine S46 ?_ | refine S49 ?_ | refine S51 ?_ | refine S63 ?_)
    refine CW.own 7 1 rfl ?_
    have hpL := ar_len n
    have hpA : ∀ k, k < n → (arL n).getD k 0 = (k : Int) := fun k hk => ar_a k hk
    have hpB : ∀ k, n ≤ k → k < (arL n).length → (arL n).getD k 0 = 3 * (n : Int) - 1 - k := fun k hk hk2 => ar_b k hk hk2
    have hps : ∀ k, k < (arL n).length → 0 ≤ (arL n).getD k 0 ∧ (arL n).getD k 0 < (d.length : Int) := fun k hk => by have := ar_bd k hk; omega
    generalize arL n = ps at *
    refine CW.loopS (fun i : Nat × List Int × Nat × Nat => i.1 ≤ ps.length ∧ i.2.2.1 ≤ i.2.1.length ∧ i.2.1.take i.2.2.1 = (ps.take i.1).foldl (stkS d) [] ∧ i.2.2.2 % 2 = 0)
      (fun i => [(7, .ref i.2.2.2 0 1 i.2.2.1), (0, pint n), (1, pli d), (52, pint (2 * (n : Int))), (53, pint i.1)]) (fun i h => h.blk i.2.2.2 = some (ints i.2.1)) (fun i => ps.length - i.1) (0, [], 0, hp.tok false) ⟨⟨Nat.zero_le _, by simp, by simp, HP.tok_even _⟩, SLx, HBx⟩ ?_
    rintro ⟨k, zs, m, T⟩ t hp ⟨hk, hm, hz, hT⟩ B
    simp only at hk hm hz hT B
    first | simp only [updS] | simp only [updL, Nat.reduceAdd]
    refine CW.trimI T m B ?_
    have hml : (zs.take m).length = m := by simp; omega
    rw [hz] at hml ⊢
    have hB2 := HP.set_same hp T (ints ((ps.take k).foldl (stkS d) []))
    generalize hp.set T (ints ((ps.take k).foldl (stkS d) [])) = hp2 at *
    have hRl := stk_len (ps.take k) (d := d) []
    rw [List.length_take, List.length_nil] at hRl
    by_cases hk2 : k < ps.length
    · have hsx := stk_succ (d := d) hk2
      have hbk := hps k hk2
      generalize hR : (ps.take k).foldl (stkS d) [] = R at *
      subst hml
      clear hz B
      by_cases hkn : k < n
      · have hx : ps.getD k 0 = (k : Int) := hpA k hkn
        cases hRn : R.length with
        | zero =>
          obtain rfl : R = [] := List.length_eq_zero_iff.1 hRn
          have hp3 := stk_on (d := d) (zs := []) (x := ps.getD k 0) (.inl rfl)
          repeat (first | refine S0 ?_ | refine S1 ?_ | refine S2 ?_ | refine S3 ?_ | refine S4 ?_ | refine S5 ?_ | refine S6 ?_ | refine S7 ?_ | refine S8 ?_ | refine S9 ?_ | refine S10 ?_ | refine S11 ?_ | refine S12 ?_ | refine S13 ?_ | refine S15 ?_ | refine S16 ?_ | refine S19 ?_ | refine S20 ?_ | refine S21 ?_ | refine S22 ?_ | refine S23 ?_ | refine S24 ?_ | refine S25 ?_ | refine S26 ?_ | refine S27 ?_ | refine S28 ?_ | refine S29 ?_ | refine S30 ?_ | refine S32 ?_ | refine S33 ?_ | refine S37 ?_ | refine S38 ?_ | refine S40 ?_ | refine S41 ?_ | refine S46 ?_ | refine S49 ?_ | refine S51 ?_ | refine S63 ?_)
          exact ⟨(k + 1, [] ++ [(k : Int)], 1, 2 * hp2.next), ⟨by simp only; omega, by simp, by simp only; rw [hsx, hp3, hx]; rfl, by simp only; omega⟩, SLx, (by (try dsimp only); repeat' (first | exact HBx | exact SBx | refine And.intro ?_ ?_)), by simp only; omega⟩
        | succ m' =>
          have g1 : R.getD (((m' + 1 : Nat) : Int) - 1).toNat 0 = R.getD m' 0 := by rw [show (((m' + 1 : Nat) : Int) - 1).toNat = m' by omega]
          by_cases c : R.getD m' 0 = d.getD (ps.getD k 0).toNat 0
          · have hp3 := stk_pop hRn c
            rw [hx, Int.toNat_natCast] at c
            repeat (first | refine S0 ?_ | refine S1 ?_ | refine S2 ?_ | refine S3 ?_ | refine S4 ?_ | refine S5 ?_ | refine S6 ?_ | refine S7 ?_ | refine S8 ?_ | refine S9 ?_ | refine S10 ?_ | refine S11 ?_ | refine S12 ?_ | refine S13 ?_ | refine S15 ?_ | refine S16 ?_ | refine S19 ?_ | refine S20 ?_ | refine S21 ?_ | refine S22 ?_ | refine S23 ?_ | refine S24 ?_ | refine S25 ?_ | refine S26 ?_ | refine S27 ?_ | refine S28 ?_ | refine S29 ?_ | refine S30 ?_ | refine S32 ?_ | refine S33 ?_ | refine S37 ?_ | refine S38 ?_ | refine S40 ?_ | refine S41 ?_ | refine S46 ?_ | refine S49 ?_ | refine S51 ?_ | refine S63 ?_)
            refine AW.slrTo (q := m') (by simp only [evA, upd, putA, ofConst, ofConst.ofCell, Nat.reduceEqDiff, ↓reduceIte, List.map_cons, List.map_nil, List.toList_toArray]; first | done | rfl) rfl (by simp only [evA, upd, putA, ofConst, ofConst.ofCell, Nat.reduceEqDiff, ↓reduceIte, List.map_cons, List.map_nil, List.toList_toArray]; first | done | rfl) (by omega) (by omega) ?_
            repeat (first | refine S0 ?_ | refine S1 ?_ | refine S2 ?_ | refine S3 ?_ | refine S4 ?_ | refine S5 ?_ | refine S6 ?_ | refine S7 ?_ | refine S8 ?_ | refine S9 ?_ | refine S10 ?_ | refine S11 ?_ | refine S12 ?_ | refine S13 ?_ | refine S15 ?_ | refine S16 ?_ | refine S19 ?_ | refine S20 ?_ | refine S21 ?_ | refine S22 ?_ | refine S23 ?_ | refine S24 ?_ | refine S25 ?_ | refine S26 ?_ | refine S27 ?_ | refine S28 ?_ | refine S29 ?_ | refine S30 ?_ | refine S32 ?_ | refine S33 ?_ | refine S37 ?_ | refine S38 ?_ | refine S40 ?_ | refine S41 ?_ | refine S46 ?_ | refine S49 ?_ | refine S51 ?_ | refine S63 ?_)
            exact ⟨(k + 1, R, m', T), ⟨by simp only; omega, by simp only; omega, by simp only; rw [hsx, hp3], hT⟩, SLx, (by (try dsimp only); repeat' (first | exact HBx | exact SBx | refine And.intro ?_ ?_)), by simp only; omega⟩
          · have hp3 := stk_on (d := d) (zs := R) (x := ps.getD k 0) (.inr ⟨m', hRn, c⟩)
            rw [hx, Int.toNat_natCast] at c
            repeat (first | refine S0 ?_ | refine S1 ?_ | refine S2 ?_ | refine S3 ?_ | refine S4 ?_ | refine S5 ?_ | refine S6 ?_ | refine S7 ?_ | refine S8 ?_ | refine S9 ?_ | refine S10 ?_ | refine S11 ?_ | refine S12 ?_ | refine S13 ?_ | refine S15 ?_ | refine S16 ?_ | refine S19 ?_ | refine S20 ?_ | refine S21 ?_ | refine S22 ?_ | refine S23 ?_ | refine S24 ?_ | refine S25 ?_ | refine S26 ?_ | refine S27 ?_ | refine S28 ?_ | refine S29 ?_ | refine S30 ?_ | refine S32 ?_ | refine S33 ?_ | refine S37 ?_ | refine S38 ?_ | refine S40 ?_ | refine S41 ?_ | refine S46 ?_ | refine S49 ?_ | refine S51 ?_ | refine S63 ?_)
            exact ⟨(k + 1, R ++ [(k : Int)], m' + 1 + 1, 2 * hp2.next), ⟨by simp only; omega, by simp [hRn], by simp only; rw [hsx, hp3, hx]; exact List.take_of_length_le (by simp [hRn]), by simp only; omega⟩, SLx, (by (try dsimp only); repeat' (first | exact HBx | exact SBx | refine And.intro ?_ ?_)), by simp only; omega⟩
      · have hx : ps.getD k 0 = 3 * (n : Int) - 1 - k := hpB k (by omega) hk2
        cases hRn : R.length with
        | zero =>
          obtain rfl : R = [] := List.length_eq_zero_iff.1 hRn
          have hp3 := stk_on (d := d) (zs := []) (x := ps.getD k 0) (.inl rfl)
          repeat (first | refine S0 ?_ | refine S1 ?_ | refine S2 ?_ | refine S3 ?_ | refine S4 ?_ | refine S5 ?_ | refine S6 ?_ | refine S7 ?_ | refine S8 ?_ | refine S9 ?_ | refine S10 ?_ | refine S11 ?_ | refine S12 ?_ | refine S13 ?_ | refine S15 ?_ | refine S16 ?_ | refine S19 ?_ | refine S20 ?_ | refine S21 ?_ | refine S22 ?_ | refine S23 ?_ | refine S24 ?_ | refine S25 ?_ | refine S26 ?_ | refine S27 ?_ | refine S28 ?_ | refine S29 ?_ | refine S30 ?_ | refine S32 ?_ | refine S33 ?_ | refine S37 ?_ | refine S38 ?_ | refine S40 ?_ | refine S41 ?_ | refine S46 ?_ | refine S49 ?_ | refine S51 ?_ | refine S63 ?_)
          exact ⟨(k + 1, [] ++ [3 * (n : Int) - 1 - k], 1, 2 * hp2.next), ⟨by simp only; omega, by simp, by simp only; rw [hsx, hp3, hx]; rfl, by simp only; omega⟩, SLx, (by (try dsimp only); repeat' (first | exact HBx | exact SBx | refine And.intro ?_ ?_)), by simp only; omega⟩
        | succ m' =>
          have g1 : R.getD (((m' + 1 : Nat) : Int) - 1).toNat 0 = R.getD m' 0 := by rw [show (((m' + 1 : Nat) : Int) - 1).toNat = m' by omega]
          by_cases c : R.getD m' 0 = d.getD (ps.getD k 0).toNat 0
          · have hp3 := stk_pop hRn c
            rw [hx] at c
            repeat (first | refine S0 ?_ | refine S1 ?_ | refine S2 ?_ | refine S3 ?_ | refine S4 ?_ | refine S5 ?_ | refine S6 ?_ | refine S7 ?_ | refine S8 ?_ | refine S9 ?_ | refine S10 ?_ | refine S11 ?_ | refine S12 ?_ | refine S13 ?_ | refine S15 ?_ | refine S16 ?_ | refine S19 ?_ | refine S20 ?_ | refine S21 ?_ | refine S22 ?_ | refine S23 ?_ | refine S24 ?_ | refine S25 ?_ | refine S26 ?_ | refine S27 ?_ | refine S28 ?_ | refine S29 ?_ | refine S30 ?_ | refine S32 ?_ | refine S33 ?_ | refine S37 ?_ | refine S38 ?_ | refine S40 ?_ | refine S41 ?_ | refine S46 ?_ | refine S49 ?_ | refine S51 ?_ | refine S63 ?_)
            refine AW.slrTo (q := m') (by simp only [evA, upd, putA, ofConst, ofConst.ofCell, Nat.reduceEqDiff, ↓reduceIte, List.map_cons, List.map_nil, List.toList_toArray]; first | done | rfl) rfl (by simp only [evA, upd, putA, ofConst, ofConst.ofCell, Nat.reduceEqDiff, ↓reduceIte, List.map_cons, List.map_nil, List.toList_toArray]; first | done | rfl) (by omega) (by omega) ?_
            repeat (first | refine S0 ?_ | refine S1 ?_ | refine S2 ?_ | refine S3 ?_ | refine S4 ?_ | refine S5 ?_ | refine S6 ?_ | refine S7 ?_ | refine S8 ?_ | refine S9 ?_ | refine S10 ?_ | refine S11 ?_ | refine S12 ?_ | refine S13 ?_ | refine S15 ?_ | refine S16 ?_ | refine S19 ?_ | refine S20 ?_ | refine S21 ?_ | refine S22 ?_ | refine S23 ?_ | refine S24 ?_ | refine S25 ?_ | refine S26 ?_ | refine S27 ?_ | refine S28 ?_ | refine S29 ?_ | refine S30 ?_ | refine S32 ?_ | refine S33 ?_ | refine S37 ?_ | refine S38 ?_ | refine S40 ?_ | refine S41 ?_ | refine S46 ?_ | refine S49 ?_ | refine S51 ?_ | refine S63 ?_)
            exact ⟨(k + 1, R, m', T), ⟨by simp only; omega, by simp only; omega, by simp only; rw [hsx, hp3], hT⟩, SLx, (by (try dsimp only); repeat' (first | exact HBx | exact SBx | refine And.intro ?_ ?_)), by simp only; omega⟩
          · have hp3 := stk_on (d := d) (zs := R) (x := ps.getD k 0) (.inr ⟨m', hRn, c⟩)
            rw [hx] at c
            repeat (first | refine S0 ?_ | refine S1 ?_ | refine S2 ?_ | refine S3 ?_ | refine S4 ?_ | refine S5 ?_ | refine S6 ?_ | refine S7 ?_ | refine S8 ?_ | refine S9 ?_ | refine S10 ?_ | refine S11 ?_ | refine S12 ?_ | refine S13 ?_ | refine S15 ?_ | refine S16 ?_ | refine S19 ?_ | refine S20 ?_ | refine S21 ?_ | refine S22 ?_ | refine S23 ?_ | refine S24 ?_ | refine S25 ?_ | refine S26 ?_ | refine S27 ?_ | refine S28 ?_ | refine S29 ?_ | refine S30 ?_ | refine S32 ?_ | refine S33 ?_ | refine S37 ?_ | refine S38 ?_ | refine S40 ?_ | refine S41 ?_ | refine S46 ?_ | refine S49 ?_ | refine S51 ?_ | refine S63 ?_)
            exact ⟨(k + 1, R ++ [3 * (n : Int) - 1 - k], m' + 1 + 1, 2 * hp2.next), ⟨by simp only; omega, by simp [hRn], by simp only; rw [hsx, hp3, hx]; exact List.take_of_length_le (by simp [hRn]), by simp only; omega⟩, SLx, (by (try dsimp only); repeat' (first | exact HBx | exact SBx | refine And.intro ?_ ?_)), by simp only; omega⟩
    · obtain rfl : k = ps.length := by omega
      rw [List.take_length] at hB2 hml
      subst hml
      generalize hR : ps.foldl (stkS d) [] = R at *
      by_cases h0 : R.length = 0
      · rw [if_neg (by omega)]
        repeat (first | refine S0 ?_ | refine S1 ?_ | refine S2 ?_ | refine S3 ?_ | refine S4 ?_ | refine S5 ?_ | refine S6 ?_ | refine S7 ?_ | refine S8 ?_ | refine S9 ?_ | refine S10 ?_ | refine S11 ?_ | refine S12 ?_ | refine S13 ?_ | refine S15 ?_ | refine S16 ?_ | refine S19 ?_ | refine S20 ?_ | refine S21 ?_ | refine S22 ?_ | refine S23 ?_ | refine S24 ?_ | refine S25 ?_ | refine S26 ?_ | refine S27 ?_ | refine S28 ?_ | refine S29 ?_ | refine S30 ?_ | refine S32 ?_ | refine S33 ?_ | refine S37 ?_ | refine S38 ?_ | refine S40 ?_ | refine S41 ?_ | refine S46 ?_ | refine S49 ?_ | refine S51 ?_ | refine S63 ?_)
        exact ⟨.inr rfl, .cl rfl⟩
      · rw [if_pos h0]
        repeat (first | refine S0 ?_ | refine S1 ?_ | refine S2 ?_ | refine S3 ?_ | refine S4 ?_ | refine S5 ?_ | refine S6 ?_ | refine S7 ?_ | refine S8 ?_ | refine S9 ?_ | refine S10 ?_ | refine S11 ?_ | refine S12 ?_ | refine S13 ?_ | refine S15 ?_ | refine S16 ?_ | refine S19 ?_ | refine S20 ?_ | refine S21 ?_ | refine S22 ?_ | refine S23 ?_ | refine S24 ?_ | refine S25 ?_ | refine S26 ?_ | refine S27 ?_ | refine S28 ?_ | refine S29 ?_ | refine S30 ?_ | refine S32 ?_ | refine S33 ?_ | refine S37 ?_ | refine S38 ?_ | refine S40 ?_ | refine S41 ?_ | refine S46 ?_ | refine S49 ?_ | refine S51 ?_ | refine S63 ?_)
        exact ⟨.inr rfl, .cl rfl⟩
end Go.Proofs.Ytpmdhkiolgpiaaa
