/- The law ColorCounts holds for all words, colours and moduli. No condition of its own. -/
import Derived.Test.YtgjfpmjllpgadaaGColorCountsBX
import Derived.Test.YtgjfpmjllpgadaaGColorCountsBU
set_option linter.unusedVariables false
set_option linter.unusedSimpArgs false
namespace Go.Proofs.Ytgjfpmjllpgadaa
open Go.RowKit

theorem dig_snoc (q : Nat) : ∀ (k t : Nat), dig q (k + 1) t = dig q k t ++ [t / q ^ k % q]
  | 0, t => by simp [dig]
  | k + 1, t => by
    show t % q :: dig q (k + 1) (t / q) = t % q :: dig q k (t / q) ++ _
    rw [dig_snoc q k (t / q), Nat.div_div_eq_div_mul, Nat.pow_succ, Nat.mul_comm (q ^ k)]
    rfl
theorem nvi_snoc (v : List Nat) (x : Nat) : nvi (v ++ [x]) = nvi v ++ [(x : Int)] := by simp [nvi]
theorem fix_ex : fixN 2 3 [1, 1, 1] = 9 := by decide +kernel
theorem p13_60 {q i : Nat} (hq : q ≤ 13) (hi : i ≤ 6) : q ^ i ≤ 5000000 := by
  refine Nat.le_trans (Nat.pow_le_pow_left hq i) ?_
  rw [← p13_eq]
  exact p13_6 hi
theorem cone_s : SC Try.prog 39 [pint 2, plt [1, 1, 1], pint 3] (.tup [pint 9, pint 0]) := by
  have h := count_ok (n := 2) (q := 3) (w := [1, 1, 1]) (by decide) ⟨by decide, by decide, fun k hk => by
    match k, hk with
    | 0, _ => decide
    | 1, _ => decide
    | 2, _ => decide
    | k + 3, hk => exact absurd hk (by simp)⟩ (by decide) (by decide)
  rw [fix_ex] at h
  refine SC.nrmA ?_
  exact h
set_option maxHeartbeats 16000000 in
set_option maxRecDepth 100000 in
theorem colors_bad {n q : Int} {w c : List Int} (hx : bF n w ≠ 0 ∨ q < 1 ∨ 13 < q) : SC Try.prog 7 [pint n, pli w, pli c, pint q] (.sc (.bool true)) := by
  have k1 := cone_s
  have kf := bfault_s n w
  obtain ⟨x, kp, kk, hxd⟩ : ∃ x, SC Try.prog 40 [pint n, pli w, pli c, pint q] (.tup [pli [], pint x]) ∧ SC Try.prog 39 [pint n, pli w, pint q] (.tup [pint 0, pint x]) ∧ ((bF n w ≠ 0 ∧ x = bF n w) ∨ (bF n w = 0 ∧ x = 1 ∧ (q < 1 ∨ 13 < q))) := by
    by_cases h0 : bF n w = 0
    · have hq : q < 1 ∨ 13 < q := by
        rcases hx with h | h
        · exact absurd h0 h
        · exact h
      exact ⟨1, prop_arg h0 hq, count_arg h0 hq, .inr ⟨h0, rfl, hq⟩⟩
    · exact ⟨bF n w, prop_bad h0, count_bad h0, .inl ⟨h0, rfl⟩⟩
  have keq : SC Try.prog 20 [pli [], .lst true 0 0 []] (.sc (.bool true)) := SC.weak (equal_refl []) rfl
  generalize bF n w = B at *
  refine SC.go {} tok mixed Try.func7 rfl rfl Try.ntmps7 rfl rfl (by kernel_rfl) ?_
  first | simp only [updS] | simp only [updL, Nat.reduceAdd]
  rcases hxd with ⟨hb, rfl⟩ | ⟨rfl, rfl, hq⟩
  · clear hx
    repeat (first | refine S0 ?_ | refine S1 ?_ | refine S2 ?_ | refine S4 ?_ | refine S5 ?_ | refine S6 ?_ | refine S7 ?_ | refine S8 ?_ | refine S9 ?_ | refine S10 ?_ | refine S11 ?_ | refine S13 ?_ | refine S15 ?_ | refine S16 ?_ | refine S19 ?_ | refine S20 ?_ | refine S21 ?_ | refine S22 ?_ | refine S23 ?_ | refine S26 ?_ | refine S28 ?_ | refine S29 ?_ | refine S30 ?_ | refine S34 ?_ | refine S36 ?_ | refine S37 ?_ | refine S38 ?_ | refine S39 ?_ | refine S40 ?_ | refine S41 ?_ | refine S49 ?_ | refine S51 ?_ | refine S52 ?_ | refine S53 ?_ | refine S56 ?_ | refine S63 ?_ | refine S73 ?_)
    refine Scall (args := [pint 2, plt [1, 1, 1], pint 3]) k1 ?_
    repeat (first | refine S0 ?_ | refine S1 ?_ | refine S2 ?_ | refine S4 ?_ | refine S5 ?_ | refine S6 ?_ | refine S7 ?_ | refine S8 ?_ | refine S9 ?_ | refine S10 ?_ | refine S11 ?_ | refine S13 ?_ | refine S15 ?_ | refine S16 ?_ | refine S19 ?_ | refine S20 ?_ | refine S21 ?_ | refine S22 ?_ | refine S23 ?_ | refine S26 ?_ | refine S28 ?_ | refine S29 ?_ | refine S30 ?_ | refine S34 ?_ | refine S36 ?_ | refine S37 ?_ | refine S38 ?_ | refine S39 ?_ | refine S40 ?_ | refine S41 ?_ | refine S49 ?_ | refine S51 ?_ | refine S52 ?_ | refine S53 ?_ | refine S56 ?_ | refine S63 ?_ | refine S73 ?_)
    refine Scall (args := [pint n, pli w, pli c, pint q]) kp ?_
    repeat (first | refine S0 ?_ | refine S1 ?_ | refine S2 ?_ | refine S4 ?_ | refine S5 ?_ | refine S6 ?_ | refine S7 ?_ | refine S8 ?_ | refine S9 ?_ | refine S10 ?_ | refine S11 ?_ | refine S13 ?_ | refine S15 ?_ | refine S16 ?_ | refine S19 ?_ | refine S20 ?_ | refine S21 ?_ | refine S22 ?_ | refine S23 ?_ | refine S26 ?_ | refine S28 ?_ | refine S29 ?_ | refine S30 ?_ | refine S34 ?_ | refine S36 ?_ | refine S37 ?_ | refine S38 ?_ | refine S39 ?_ | refine S40 ?_ | refine S41 ?_ | refine S49 ?_ | refine S51 ?_ | refine S52 ?_ | refine S53 ?_ | refine S56 ?_ | refine S63 ?_ | refine S73 ?_)
    refine Scall (args := [pint n, pli w, pint q]) kk ?_
    repeat (first | refine S0 ?_ | refine S1 ?_ | refine S2 ?_ | refine S4 ?_ | refine S5 ?_ | refine S6 ?_ | refine S7 ?_ | refine S8 ?_ | refine S9 ?_ | refine S10 ?_ | refine S11 ?_ | refine S13 ?_ | refine S15 ?_ | refine S16 ?_ | refine S19 ?_ | refine S20 ?_ | refine S21 ?_ | refine S22 ?_ | refine S23 ?_ | refine S26 ?_ | refine S28 ?_ | refine S29 ?_ | refine S30 ?_ | refine S34 ?_ | refine S36 ?_ | refine S37 ?_ | refine S38 ?_ | refine S39 ?_ | refine S40 ?_ | refine S41 ?_ | refine S49 ?_ | refine S51 ?_ | refine S52 ?_ | refine S53 ?_ | refine S56 ?_ | refine S63 ?_ | refine S73 ?_)
    refine Scall (args := [pint n, pli w]) kf ?_
    repeat (first | refine S0 ?_ | refine S1 ?_ | refine S2 ?_ | refine S4 ?_ | refine S5 ?_ | refine S6 ?_ | refine S7 ?_ | refine S8 ?_ | refine S9 ?_ | refine S10 ?_ | refine S11 ?_ | refine S13 ?_ | refine S15 ?_ | refine S16 ?_ | refine S19 ?_ | refine S20 ?_ | refine S21 ?_ | refine S22 ?_ | refine S23 ?_ | refine S26 ?_ | refine S28 ?_ | refine S29 ?_ | refine S30 ?_ | refine S34 ?_ | refine S36 ?_ | refine S37 ?_ | refine S38 ?_ | refine S39 ?_ | refine S40 ?_ | refine S41 ?_ | refine S49 ?_ | refine S51 ?_ | refine S52 ?_ | refine S53 ?_ | refine S56 ?_ | refine S63 ?_ | refine S73 ?_)
    refine Scall (args := [pli [], .lst true 0 0 []]) keq ?_
    repeat (first | refine S0 ?_ | refine S1 ?_ | refine S2 ?_ | refine S4 ?_ | refine S5 ?_ | refine S6 ?_ | refine S7 ?_ | refine S8 ?_ | refine S9 ?_ | refine S10 ?_ | refine S11 ?_ | refine S13 ?_ | refine S15 ?_ | refine S16 ?_ | refine S19 ?_ | refine S20 ?_ | refine S21 ?_ | refine S22 ?_ | refine S23 ?_ | refine S26 ?_ | refine S28 ?_ | refine S29 ?_ | refine S30 ?_ | refine S34 ?_ | refine S36 ?_ | refine S37 ?_ | refine S38 ?_ | refine S39 ?_ | refine S40 ?_ | refine S41 ?_ | refine S49 ?_ | refine S51 ?_ | refine S52 ?_ | refine S53 ?_ | refine S56 ?_ | refine S63 ?_ | refine S73 ?_)
    exact ⟨.inr rfl, .cl rfl⟩
  · by_cases hq1 : q < 1
    · skip
      repeat (first | refine S0 ?_ | refine S1 ?_ | refine S2 ?_ | refine S4 ?_ | refine S5 ?_ | refine S6 ?_ | refine S7 ?_ | refine S8 ?_ | refine S9 ?_ | refine S10 ?_ | refine S11 ?_ | refine S13 ?_ | refine S15 ?_ | refine S16 ?_ | refine S19 ?_ | refine S20 ?_ | refine S21 ?_ | refine S22 ?_ | refine S23 ?_ | refine S26 ?_ | refine S28 ?_ | refine S29 ?_ | refine S30 ?_ | refine S34 ?_ | refine S36 ?_ | refine S37 ?_ | refine S38 ?_ | refine S39 ?_ | refine S40 ?_ | refine S41 ?_ | refine S49 ?_ | refine S51 ?_ | refine S52 ?_ | refine S53 ?_ | refine S56 ?_ | refine S63 ?_ | refine S73 ?_)
      refine Scall (args := [pint 2, plt [1, 1, 1], pint 3]) k1 ?_
      repeat (first | refine S0 ?_ | refine S1 ?_ | refine S2 ?_ | refine S4 ?_ | refine S5 ?_ | refine S6 ?_ | refine S7 ?_ | refine S8 ?_ | refine S9 ?_ | refine S10 ?_ | refine S11 ?_ | refine S13 ?_ | refine S15 ?_ | refine S16 ?_ | refine S19 ?_ | refine S20 ?_ | refine S21 ?_ | refine S22 ?_ | refine S23 ?_ | refine S26 ?_ | refine S28 ?_ | refine S29 ?_ | refine S30 ?_ | refine S34 ?_ | refine S36 ?_ | refine S37 ?_ | refine S38 ?_ | refine S39 ?_ | refine S40 ?_ | refine S41 ?_ | refine S49 ?_ | refine S51 ?_ | refine S52 ?_ | refine S53 ?_ | refine S56 ?_ | refine S63 ?_ | refine S73 ?_)
      refine Scall (args := [pint n, pli w, pli c, pint q]) kp ?_
      repeat (first | refine S0 ?_ | refine S1 ?_ | refine S2 ?_ | refine S4 ?_ | refine S5 ?_ | refine S6 ?_ | refine S7 ?_ | refine S8 ?_ | refine S9 ?_ | refine S10 ?_ | refine S11 ?_ | refine S13 ?_ | refine S15 ?_ | refine S16 ?_ | refine S19 ?_ | refine S20 ?_ | refine S21 ?_ | refine S22 ?_ | refine S23 ?_ | refine S26 ?_ | refine S28 ?_ | refine S29 ?_ | refine S30 ?_ | refine S34 ?_ | refine S36 ?_ | refine S37 ?_ | refine S38 ?_ | refine S39 ?_ | refine S40 ?_ | refine S41 ?_ | refine S49 ?_ | refine S51 ?_ | refine S52 ?_ | refine S53 ?_ | refine S56 ?_ | refine S63 ?_ | refine S73 ?_)
      refine Scall (args := [pint n, pli w, pint q]) kk ?_
      repeat (first | refine S0 ?_ | refine S1 ?_ | refine S2 ?_ | refine S4 ?_ | refine S5 ?_ | refine S6 ?_ | refine S7 ?_ | refine S8 ?_ | refine S9 ?_ | refine S10 ?_ | refine S11 ?_ | refine S13 ?_ | refine S15 ?_ | refine S16 ?_ | refine S19 ?_ | refine S20 ?_ | refine S21 ?_ | refine S22 ?_ | refine S23 ?_ | refine S26 ?_ | refine S28 ?_ | refine S29 ?_ | refine S30 ?_ | refine S34 ?_ | refine S36 ?_ | refine S37 ?_ | refine S38 ?_ | refine S39 ?_ | refine S40 ?_ | refine S41 ?_ | refine S49 ?_ | refine S51 ?_ | refine S52 ?_ | refine S53 ?_ | refine S56 ?_ | refine S63 ?_ | refine S73 ?_)
      refine Scall (args := [pint n, pli w]) kf ?_
      repeat (first | refine S0 ?_ | refine S1 ?_ | refine S2 ?_ | refine S4 ?_ | refine S5 ?_ | refine S6 ?_ | refine S7 ?_ | refine S8 ?_ | refine S9 ?_ | refine S10 ?_ | refine S11 ?_ | refine S13 ?_ | refine S15 ?_ | refine S16 ?_ | refine S19 ?_ | refine S20 ?_ | refine S21 ?_ | refine S22 ?_ | refine S23 ?_ | refine S26 ?_ | refine S28 ?_ | refine S29 ?_ | refine S30 ?_ | refine S34 ?_ | refine S36 ?_ | refine S37 ?_ | refine S38 ?_ | refine S39 ?_ | refine S40 ?_ | refine S41 ?_ | refine S49 ?_ | refine S51 ?_ | refine S52 ?_ | refine S53 ?_ | refine S56 ?_ | refine S63 ?_ | refine S73 ?_)
      refine Scall (args := [pli [], .lst true 0 0 []]) keq ?_
      repeat (first | refine S0 ?_ | refine S1 ?_ | refine S2 ?_ | refine S4 ?_ | refine S5 ?_ | refine S6 ?_ | refine S7 ?_ | refine S8 ?_ | refine S9 ?_ | refine S10 ?_ | refine S11 ?_ | refine S13 ?_ | refine S15 ?_ | refine S16 ?_ | refine S19 ?_ | refine S20 ?_ | refine S21 ?_ | refine S22 ?_ | refine S23 ?_ | refine S26 ?_ | refine S28 ?_ | refine S29 ?_ | refine S30 ?_ | refine S34 ?_ | refine S36 ?_ | refine S37 ?_ | refine S38 ?_ | refine S39 ?_ | refine S40 ?_ | refine S41 ?_ | refine S49 ?_ | refine S51 ?_ | refine S52 ?_ | refine S53 ?_ | refine S56 ?_ | refine S63 ?_ | refine S73 ?_)
      exact ⟨.inr rfl, .cl rfl⟩
    · skip
      repeat (first | refine S0 ?_ | refine S1 ?_ | refine S2 ?_ | refine S4 ?_ | refine S5 ?_ | refine S6 ?_ | refine S7 ?_ | refine S8 ?_ | refine S9 ?_ | refine S10 ?_ | refine S11 ?_ | refine S13 ?_ | refine S15 ?_ | refine S16 ?_ | refine S19 ?_ | refine S20 ?_ | refine S21 ?_ | refine S22 ?_ | refine S23 ?_ | refine S26 ?_ | refine S28 ?_ | refine S29 ?_ | refine S30 ?_ | refine S34 ?_ | refine S36 ?_ | refine S37 ?_ | refine S38 ?_ | refine S39 ?_ | refine S40 ?_ | refine S41 ?_ | refine S49 ?_ | refine S51 ?_ | refine S52 ?_ | refine S53 ?_ | refine S56 ?_ | refine S63 ?_ | refine S73 ?_)
      refine Scall (args := [pint 2, plt [1, 1, 1], pint 3]) k1 ?_
      repeat (first | refine S0 ?_ | refine S1 ?_ | refine S2 ?_ | refine S4 ?_ | refine S5 ?_ | refine S6 ?_ | refine S7 ?_ | refine S8 ?_ | refine S9 ?_ | refine S10 ?_ | refine S11 ?_ | refine S13 ?_ | refine S15 ?_ | refine S16 ?_ | refine S19 ?_ | refine S20 ?_ | refine S21 ?_ | refine S22 ?_ | refine S23 ?_ | refine S26 ?_ | refine S28 ?_ | refine S29 ?_ | refine S30 ?_ | refine S34 ?_ | refine S36 ?_ | refine S37 ?_ | refine S38 ?_ | refine S39 ?_ | refine S40 ?_ | refine S41 ?_ | refine S49 ?_ | refine S51 ?_ | refine S52 ?_ | refine S53 ?_ | refine S56 ?_ | refine S63 ?_ | refine S73 ?_)
      refine Scall (args := [pint n, pli w, pli c, pint q]) kp ?_
      repeat (first | refine S0 ?_ | refine S1 ?_ | refine S2 ?_ | refine S4 ?_ | refine S5 ?_ | refine S6 ?_ | refine S7 ?_ | refine S8 ?_ | refine S9 ?_ | refine S10 ?_ | refine S11 ?_ | refine S13 ?_ | refine S15 ?_ | refine S16 ?_ | refine S19 ?_ | refine S20 ?_ | refine S21 ?_ | refine S22 ?_ | refine S23 ?_ | refine S26 ?_ | refine S28 ?_ | refine S29 ?_ | refine S30 ?_ | refine S34 ?_ | refine S36 ?_ | refine S37 ?_ | refine S38 ?_ | refine S39 ?_ | refine S40 ?_ | refine S41 ?_ | refine S49 ?_ | refine S51 ?_ | refine S52 ?_ | refine S53 ?_ | refine S56 ?_ | refine S63 ?_ | refine S73 ?_)
      refine Scall (args := [pint n, pli w, pint q]) kk ?_
      repeat (first | refine S0 ?_ | refine S1 ?_ | refine S2 ?_ | refine S4 ?_ | refine S5 ?_ | refine S6 ?_ | refine S7 ?_ | refine S8 ?_ | refine S9 ?_ | refine S10 ?_ | refine S11 ?_ | refine S13 ?_ | refine S15 ?_ | refine S16 ?_ | refine S19 ?_ | refine S20 ?_ | refine S21 ?_ | refine S22 ?_ | refine S23 ?_ | refine S26 ?_ | refine S28 ?_ | refine S29 ?_ | refine S30 ?_ | refine S34 ?_ | refine S36 ?_ | refine S37 ?_ | refine S38 ?_ | refine S39 ?_ | refine S40 ?_ | refine S41 ?_ | refine S49 ?_ | refine S51 ?_ | refine S52 ?_ | refine S53 ?_ | refine S56 ?_ | refine S63 ?_ | refine S73 ?_)
      refine Scall (args := [pint n, pli w]) kf ?_
      repeat (first | refine S0 ?_ | refine S1 ?_ | refine S2 ?_ | refine S4 ?_ | refine S5 ?_ | refine S6 ?_ | refine S7 ?_ | refine S8 ?_ | refine S9 ?_ | refine S10 ?_ | refine S11 ?_ | refine S13 ?_ | refine S15 ?_ | refine S16 ?_ | refine S19 ?_ | refine S20 ?_ | refine S21 ?_ | refine S22 ?_ | refine S23 ?_ | refine S26 ?_ | refine S28 ?_ | refine S29 ?_ | refine S30 ?_ | refine S34 ?_ | refine S36 ?_ | refine S37 ?_ | refine S38 ?_ | refine S39 ?_ | refine S40 ?_ | refine S41 ?_ | refine S49 ?_ | refine S51 ?_ | refine S52 ?_ | refine S53 ?_ | refine S56 ?_ | refine S63 ?_ | refine S73 ?_)
      refine Scall (args := [pli [], .lst true 0 0 []]) keq ?_
      repeat (first | refine S0 ?_ | refine S1 ?_ | refine S2 ?_ | refine S4 ?_ | refine S5 ?_ | refine S6 ?_ | refine S7 ?_ | refine S8 ?_ | refine S9 ?_ | refine S10 ?_ | refine S11 ?_ | refine S13 ?_ | refine S15 ?_ | refine S16 ?_ | refine S19 ?_ | refine S20 ?_ | refine S21 ?_ | refine S22 ?_ | refine S23 ?_ | refine S26 ?_ | refine S28 ?_ | refine S29 ?_ | refine S30 ?_ | refine S34 ?_ | refine S36 ?_ | refine S37 ?_ | refine S38 ?_ | refine S39 ?_ | refine S40 ?_ | refine S41 ?_ | refine S49 ?_ | refine S51 ?_ | refine S52 ?_ | refine S53 ?_ | refine S56 ?_ | refine S63 ?_ | refine S73 ?_)
      exact ⟨.inr rfl, .cl rfl⟩
set_option maxHeartbeats 16000000 in
set_option maxRecDepth 100000 in
theorem colors_ok {n q : Nat} {w c : List Int} (hn : 1 ≤ n) (hw : Wd n w) (h0 : bF n w = 0) (hq : 1 ≤ q ∧ q ≤ 13) : SC Try.prog 7 [pint n, pli w, pli c, pint q] (.sc (.bool true)) := by
  have k1 := cone_s
  have kf := bfault_s n w
  rw [h0] at kf
  have kp := prop_ok (c := c) hn hw h0 hq
  have kk := count_ok hn hw h0 hq
  have hn6 := hw.n9
  have hwl := hw.len
  have hwo := hw.wok
  have hqi : (1 : Int) ≤ q ∧ (q : Int) ≤ 13 := by omega
  obtain ⟨K, hK⟩ : ∃ K, K = fixN n q w := ⟨_, rfl⟩
  rw [← hK] at kk
  refine SC.go {} tok mixed Try.func7 rfl rfl Try.ntmps7 rfl rfl (by kernel_rfl) ?_
  first | simp only [updS] | simp only [updL, Nat.reduceAdd]
  repeat (first | refine S0 ?_ | refine S1 ?_ | refine S2 ?_ | refine S4 ?_ | refine S5 ?_ | refine S6 ?_ | refine S7 ?_ | refine S8 ?_ | refine S9 ?_ | refine S10 ?_ | refine S11 ?_ | refine S13 ?_ | refine S15 ?_ | refine S16 ?_ | refine S19 ?_ | refine S20 ?_ | refine S21 ?_ | refine S22 ?_ | refine S23 ?_ | refine S26 ?_ | refine S28 ?_ | refine S29 ?_ | refine S30 ?_ | refine S34 ?_ | refine S36 ?_ | refine S37 ?_ | refine S38 ?_ | refine S39 ?_ | refine S40 ?_ | refine S41 ?_ | refine S49 ?_ | refine S51 ?_ | refine S52 ?_ | refine S53 ?_ | refine S56 ?_ | refine S63 ?_ | refine S73 ?_)
  refine Scall (args := [pint 2, plt [1, 1, 1], pint 3]) k1 ?_
  repeat (first | refine S0 ?_ | refine S1 ?_ | refine S2 ?_ | refine S4 ?_ | refine S5 ?_ | refine S6 ?_ | refine S7 ?_ | refine S8 ?_ | refine S9 ?_ | refine S10 ?_ | refine S11 ?_ | refine S13 ?_ | refine S15 ?_ | refine S16 ?_ | refine S19 ?_ | refine S20 ?_ | refine S21 ?_ | refine S22 ?_ | refine S23 ?_ | refine S26 ?_ | refine S28 ?_ | refine S29 ?_ | refine S30 ?_ | refine S34 ?_ | refine S36 ?_ | refine S37 ?_ | refine S38 ?_ | refine S39 ?_ | refine S40 ?_ | refine S41 ?_ | refine S49 ?_ | refine S51 ?_ | refine S52 ?_ | refine S53 ?_ | refine S56 ?_ | refine S63 ?_ | refine S73 ?_)
  refine Scall (args := [pint n, pli w, pli c, pint q]) kp ?_
  repeat (first | refine S0 ?_ | refine S1 ?_ | refine S2 ?_ | refine S4 ?_ | refine S5 ?_ | refine S6 ?_ | refine S7 ?_ | refine S8 ?_ | refine S9 ?_ | refine S10 ?_ | refine S11 ?_ | refine S13 ?_ | refine S15 ?_ | refine S16 ?_ | refine S19 ?_ | refine S20 ?_ | refine S21 ?_ | refine S22 ?_ | refine S23 ?_ | refine S26 ?_ | refine S28 ?_ | refine S29 ?_ | refine S30 ?_ | refine S34 ?_ | refine S36 ?_ | refine S37 ?_ | refine S38 ?_ | refine S39 ?_ | refine S40 ?_ | refine S41 ?_ | refine S49 ?_ | refine S51 ?_ | refine S52 ?_ | refine S53 ?_ | refine S56 ?_ | refine S63 ?_ | refine S73 ?_)
  refine Scall (args := [pint n, pli w, pint q]) kk ?_
  repeat (first | refine S0 ?_ | refine S1 ?_ | refine S2 ?_ | refine S4 ?_ | refine S5 ?_ | refine S6 ?_ | refine S7 ?_ | refine S8 ?_ | refine S9 ?_ | refine S10 ?_ | refine S11 ?_ | refine S13 ?_ | refine S15 ?_ | refine S16 ?_ | refine S19 ?_ | refine S20 ?_ | refine S21 ?_ | refine S22 ?_ | refine S23 ?_ | refine S26 ?_ | refine S28 ?_ | refine S29 ?_ | refine S30 ?_ | refine S34 ?_ | refine S36 ?_ | refine S37 ?_ | refine S38 ?_ | refine S39 ?_ | refine S40 ?_ | refine S41 ?_ | refine S49 ?_ | refine S51 ?_ | refine S52 ?_ | refine S53 ?_ | refine S56 ?_ | refine S63 ?_ | refine S73 ?_)
  refine Scall (args := [pint n, pli w]) kf ?_
  repeat (first | refine S0 ?_ | refine S1 ?_ | refine S2 ?_ | refine S4 ?_ | refine S5 ?_ | refine S6 ?_ | refine S7 ?_ | refine S8 ?_ | refine S9 ?_ | refine S10 ?_ | refine S11 ?_ | refine S13 ?_ | refine S15 ?_ | refine S16 ?_ | refine S19 ?_ | refine S20 ?_ | refine S21 ?_ | refine S22 ?_ | refine S23 ?_ | refine S26 ?_ | refine S28 ?_ | refine S29 ?_ | refine S30 ?_ | refine S34 ?_ | refine S36 ?_ | refine S37 ?_ | refine S38 ?_ | refine S39 ?_ | refine S40 ?_ | refine S41 ?_ | refine S49 ?_ | refine S51 ?_ | refine S52 ?_ | refine S53 ?_ | refine S56 ?_ | refine S63 ?_ | refine S73 ?_)
  obtain ⟨L, hL⟩ : ∃ L, L = prL n q w c := ⟨_, rfl⟩
  obtain ⟨E, hE⟩ : ∃ E, E = prE n q c := ⟨_, rfl⟩
  rw [← hL, ← hE]
  refine CW.midS (fun y : Int => (c.length = n ∧ y = 0) ∨ (c.length ≠ n ∧ y = 3)) (fun y => [(0, pint n), (1, pli w), (2, pli c), (7, .lptr [pint q]), (11, pli L), (12, pint E), (13, pint K), (15, pint 0), (16, pint y)]) (fun _ _ => True) ?_ ?_
  · by_cases hl : c.length = n
    · repeat (first | refine S0 ?_ | refine S1 ?_ | refine S2 ?_ | refine S4 ?_ | refine S5 ?_ | refine S6 ?_ | refine S7 ?_ | refine S8 ?_ | refine S9 ?_ | refine S10 ?_ | refine S11 ?_ | refine S13 ?_ | refine S15 ?_ | refine S16 ?_ | refine S19 ?_ | refine S20 ?_ | refine S21 ?_ | refine S22 ?_ | refine S23 ?_ | refine S26 ?_ | refine S28 ?_ | refine S29 ?_ | refine S30 ?_ | refine S34 ?_ | refine S36 ?_ | refine S37 ?_ | refine S38 ?_ | refine S39 ?_ | refine S40 ?_ | refine S41 ?_ | refine S49 ?_ | refine S51 ?_ | refine S52 ?_ | refine S53 ?_ | refine S56 ?_ | refine S63 ?_ | refine S73 ?_)
      exact ⟨0, .inl ⟨hl, rfl⟩, SLx, trivial⟩
    · repeat (first | refine S0 ?_ | refine S1 ?_ | refine S2 ?_ | refine S4 ?_ | refine S5 ?_ | refine S6 ?_ | refine S7 ?_ | refine S8 ?_ | refine S9 ?_ | refine S10 ?_ | refine S11 ?_ | refine S13 ?_ | refine S15 ?_ | refine S16 ?_ | refine S19 ?_ | refine S20 ?_ | refine S21 ?_ | refine S22 ?_ | refine S23 ?_ | refine S26 ?_ | refine S28 ?_ | refine S29 ?_ | refine S30 ?_ | refine S34 ?_ | refine S36 ?_ | refine S37 ?_ | refine S38 ?_ | refine S39 ?_ | refine S40 ?_ | refine S41 ?_ | refine S49 ?_ | refine S51 ?_ | refine S52 ?_ | refine S53 ?_ | refine S56 ?_ | refine S63 ?_ | refine S73 ?_)
      exact ⟨3, .inr ⟨hl, rfl⟩, SLx, trivial⟩
  rintro y t hp hy _
  first | simp only [updS] | simp only [updL, Nat.reduceAdd]
  refine CW.seq ?_
  refine CW.midS (fun y : Int => y = E) (fun y => [(0, pint n), (1, pli w), (2, pli c), (7, .lptr [pint q]), (11, pli L), (12, pint E), (13, pint K), (15, pint 0), (16, pint y)]) (fun _ _ => True) ?_ ?_
  · rcases hy with ⟨hl, rfl⟩ | ⟨hl, rfl⟩
    · have ka := contains_cap (cap := [.lptr [pint q]]) rfl (ccol1_s q) c (by omega)
      by_cases hin : ∀ x ∈ c, inQ q x
      · rw [show decide (¬ ∀ x ∈ c, inQ q x) = false from decide_eq_false (fun h => h hin)] at ka
        repeat (first | refine S0 ?_ | refine S1 ?_ | refine S2 ?_ | refine S4 ?_ | refine S5 ?_ | refine S6 ?_ | refine S7 ?_ | refine S8 ?_ | refine S9 ?_ | refine S10 ?_ | refine S11 ?_ | refine S13 ?_ | refine S15 ?_ | refine S16 ?_ | refine S19 ?_ | refine S20 ?_ | refine S21 ?_ | refine S22 ?_ | refine S23 ?_ | refine S26 ?_ | refine S28 ?_ | refine S29 ?_ | refine S30 ?_ | refine S34 ?_ | refine S36 ?_ | refine S37 ?_ | refine S38 ?_ | refine S39 ?_ | refine S40 ?_ | refine S41 ?_ | refine S49 ?_ | refine S51 ?_ | refine S52 ?_ | refine S53 ?_ | refine S56 ?_ | refine S63 ?_ | refine S73 ?_)
        refine Scall (args := [pli c, .clo 42 [.lptr [pint q]]]) ka ?_
        repeat (first | refine S0 ?_ | refine S1 ?_ | refine S2 ?_ | refine S4 ?_ | refine S5 ?_ | refine S6 ?_ | refine S7 ?_ | refine S8 ?_ | refine S9 ?_ | refine S10 ?_ | refine S11 ?_ | refine S13 ?_ | refine S15 ?_ | refine S16 ?_ | refine S19 ?_ | refine S20 ?_ | refine S21 ?_ | refine S22 ?_ | refine S23 ?_ | refine S26 ?_ | refine S28 ?_ | refine S29 ?_ | refine S30 ?_ | refine S34 ?_ | refine S36 ?_ | refine S37 ?_ | refine S38 ?_ | refine S39 ?_ | refine S40 ?_ | refine S41 ?_ | refine S49 ?_ | refine S51 ?_ | refine S52 ?_ | refine S53 ?_ | refine S56 ?_ | refine S63 ?_ | refine S73 ?_)
        exact ⟨0, by rw [hE]; unfold prE; rw [if_neg (by omega), if_pos hin], SLx, trivial⟩
      · rw [show decide (¬ ∀ x ∈ c, inQ q x) = true from decide_eq_true hin] at ka
        repeat (first | refine S0 ?_ | refine S1 ?_ | refine S2 ?_ | refine S4 ?_ | refine S5 ?_ | refine S6 ?_ | refine S7 ?_ | refine S8 ?_ | refine S9 ?_ | refine S10 ?_ | refine S11 ?_ | refine S13 ?_ | refine S15 ?_ | refine S16 ?_ | refine S19 ?_ | refine S20 ?_ | refine S21 ?_ | refine S22 ?_ | refine S23 ?_ | refine S26 ?_ | refine S28 ?_ | refine S29 ?_ | refine S30 ?_ | refine S34 ?_ | refine S36 ?_ | refine S37 ?_ | refine S38 ?_ | refine S39 ?_ | refine S40 ?_ | refine S41 ?_ | refine S49 ?_ | refine S51 ?_ | refine S52 ?_ | refine S53 ?_ | refine S56 ?_ | refine S63 ?_ | refine S73 ?_)
        refine Scall (args := [pli c, .clo 42 [.lptr [pint q]]]) ka ?_
        repeat (first | refine S0 ?_ | refine S1 ?_ | refine S2 ?_ | refine S4 ?_ | refine S5 ?_ | refine S6 ?_ | refine S7 ?_ | refine S8 ?_ | refine S9 ?_ | refine S10 ?_ | refine S11 ?_ | refine S13 ?_ | refine S15 ?_ | refine S16 ?_ | refine S19 ?_ | refine S20 ?_ | refine S21 ?_ | refine S22 ?_ | refine S23 ?_ | refine S26 ?_ | refine S28 ?_ | refine S29 ?_ | refine S30 ?_ | refine S34 ?_ | refine S36 ?_ | refine S37 ?_ | refine S38 ?_ | refine S39 ?_ | refine S40 ?_ | refine S41 ?_ | refine S49 ?_ | refine S51 ?_ | refine S52 ?_ | refine S53 ?_ | refine S56 ?_ | refine S63 ?_ | refine S73 ?_)
        exact ⟨1, by rw [hE]; unfold prE; rw [if_neg (by omega), if_neg hin], SLx, trivial⟩
    · repeat (first | refine S0 ?_ | refine S1 ?_ | refine S2 ?_ | refine S4 ?_ | refine S5 ?_ | refine S6 ?_ | refine S7 ?_ | refine S8 ?_ | refine S9 ?_ | refine S10 ?_ | refine S11 ?_ | refine S13 ?_ | refine S15 ?_ | refine S16 ?_ | refine S19 ?_ | refine S20 ?_ | refine S21 ?_ | refine S22 ?_ | refine S23 ?_ | refine S26 ?_ | refine S28 ?_ | refine S29 ?_ | refine S30 ?_ | refine S34 ?_ | refine S36 ?_ | refine S37 ?_ | refine S38 ?_ | refine S39 ?_ | refine S40 ?_ | refine S41 ?_ | refine S49 ?_ | refine S51 ?_ | refine S52 ?_ | refine S53 ?_ | refine S56 ?_ | refine S63 ?_ | refine S73 ?_)
      exact ⟨3, by rw [hE]; unfold prE; rw [if_pos hl], SLx, trivial⟩
  clear hy hp t
  rintro y t hp hyE _
  subst hyE
  first | simp only [updS] | simp only [updL, Nat.reduceAdd]
  repeat (first | refine S0 ?_ | refine S1 ?_ | refine S2 ?_ | refine S4 ?_ | refine S5 ?_ | refine S6 ?_ | refine S7 ?_ | refine S8 ?_ | refine S9 ?_ | refine S10 ?_ | refine S11 ?_ | refine S13 ?_ | refine S15 ?_ | refine S16 ?_ | refine S19 ?_ | refine S20 ?_ | refine S21 ?_ | refine S22 ?_ | refine S23 ?_ | refine S26 ?_ | refine S28 ?_ | refine S29 ?_ | refine S30 ?_ | refine S34 ?_ | refine S36 ?_ | refine S37 ?_ | refine S38 ?_ | refine S39 ?_ | refine S40 ?_ | refine S41 ?_ | refine S49 ?_ | refine S51 ?_ | refine S52 ?_ | refine S53 ?_ | refine S56 ?_ | refine S63 ?_ | refine S73 ?_)
  refine CW.midS (fun pv : PV => SC Try.prog 20 [pli L, pv] (.sc (.bool true)) ∧ pv.cl = true) (fun pv => [(0, pint n), (1, pli w), (2, pli c), (7, .lptr [pint q]), (11, pli L), (12, pint y), (13, pint K), (15, pint 0), (16, pint y), (17, pv)]) (fun _ _ => True) ?_ ?_
  · by_cases hy0 : y = 0
    · have hC := prE_ok (hE.symm.trans hy0)
      have hLe : L = colW q w c := by rw [hL]; exact if_pos (hE.symm.trans hy0)
      have hpl : (colW q w c).length = n := by rw [colW_len, hC.1]
      have kC := (colored_o hn6 hwl hwo hqi hC).sc (by rw [ints_length, hpl]; omega)
      rw [show PV.lst false 1 n (ints (colW q w c)) = pli (colW q w c) by unfold pli; rw [hpl], ← hLe] at kC
      repeat (first | refine S0 ?_ | refine S1 ?_ | refine S2 ?_ | refine S4 ?_ | refine S5 ?_ | refine S6 ?_ | refine S7 ?_ | refine S8 ?_ | refine S9 ?_ | refine S10 ?_ | refine S11 ?_ | refine S13 ?_ | refine S15 ?_ | refine S16 ?_ | refine S19 ?_ | refine S20 ?_ | refine S21 ?_ | refine S22 ?_ | refine S23 ?_ | refine S26 ?_ | refine S28 ?_ | refine S29 ?_ | refine S30 ?_ | refine S34 ?_ | refine S36 ?_ | refine S37 ?_ | refine S38 ?_ | refine S39 ?_ | refine S40 ?_ | refine S41 ?_ | refine S49 ?_ | refine S51 ?_ | refine S52 ?_ | refine S53 ?_ | refine S56 ?_ | refine S63 ?_ | refine S73 ?_)
      refine Scall (args := [pli w, pli c, pint q]) kC ?_
      repeat (first | refine S0 ?_ | refine S1 ?_ | refine S2 ?_ | refine S4 ?_ | refine S5 ?_ | refine S6 ?_ | refine S7 ?_ | refine S8 ?_ | refine S9 ?_ | refine S10 ?_ | refine S11 ?_ | refine S13 ?_ | refine S15 ?_ | refine S16 ?_ | refine S19 ?_ | refine S20 ?_ | refine S21 ?_ | refine S22 ?_ | refine S23 ?_ | refine S26 ?_ | refine S28 ?_ | refine S29 ?_ | refine S30 ?_ | refine S34 ?_ | refine S36 ?_ | refine S37 ?_ | refine S38 ?_ | refine S39 ?_ | refine S40 ?_ | refine S41 ?_ | refine S49 ?_ | refine S51 ?_ | refine S52 ?_ | refine S53 ?_ | refine S56 ?_ | refine S63 ?_ | refine S73 ?_)
      exact ⟨pli L, ⟨equal_refl L, pli_cl _⟩, SLx, trivial⟩
    · have hLe : L = [] := by rw [hL]; exact if_neg (by rw [← hE]; exact hy0)
      subst hLe
      repeat (first | refine S0 ?_ | refine S1 ?_ | refine S2 ?_ | refine S4 ?_ | refine S5 ?_ | refine S6 ?_ | refine S7 ?_ | refine S8 ?_ | refine S9 ?_ | refine S10 ?_ | refine S11 ?_ | refine S13 ?_ | refine S15 ?_ | refine S16 ?_ | refine S19 ?_ | refine S20 ?_ | refine S21 ?_ | refine S22 ?_ | refine S23 ?_ | refine S26 ?_ | refine S28 ?_ | refine S29 ?_ | refine S30 ?_ | refine S34 ?_ | refine S36 ?_ | refine S37 ?_ | refine S38 ?_ | refine S39 ?_ | refine S40 ?_ | refine S41 ?_ | refine S49 ?_ | refine S51 ?_ | refine S52 ?_ | refine S53 ?_ | refine S56 ?_ | refine S63 ?_ | refine S73 ?_)
      exact ⟨.lst true 0 0 [], ⟨SC.weak (equal_refl []) rfl, rfl⟩, SLx, trivial⟩
  clear hp t
  rintro pv t hp ⟨keq, hpv⟩ _
  first | simp only [updS] | simp only [updL, Nat.reduceAdd]
  repeat (first | refine S0 ?_ | refine S1 ?_ | refine S2 ?_ | refine S4 ?_ | refine S5 ?_ | refine S6 ?_ | refine S7 ?_ | refine S8 ?_ | refine S9 ?_ | refine S10 ?_ | refine S11 ?_ | refine S13 ?_ | refine S15 ?_ | refine S16 ?_ | refine S19 ?_ | refine S20 ?_ | refine S21 ?_ | refine S22 ?_ | refine S23 ?_ | refine S26 ?_ | refine S28 ?_ | refine S29 ?_ | refine S30 ?_ | refine S34 ?_ | refine S36 ?_ | refine S37 ?_ | refine S38 ?_ | refine S39 ?_ | refine S40 ?_ | refine S41 ?_ | refine S49 ?_ | refine S51 ?_ | refine S52 ?_ | refine S53 ?_ | refine S56 ?_ | refine S63 ?_ | refine S73 ?_)
  refine Scall (args := [pli L, pv]) keq ?_ (hc := by simp only [PV.cl.clL, pli_cl, hpv, Bool.and_self])
  repeat (first | refine S0 ?_ | refine S1 ?_ | refine S2 ?_ | refine S4 ?_ | refine S5 ?_ | refine S6 ?_ | refine S7 ?_ | refine S8 ?_ | refine S9 ?_ | refine S10 ?_ | refine S11 ?_ | refine S13 ?_ | refine S15 ?_ | refine S16 ?_ | refine S19 ?_ | refine S20 ?_ | refine S21 ?_ | refine S22 ?_ | refine S23 ?_ | refine S26 ?_ | refine S28 ?_ | refine S29 ?_ | refine S30 ?_ | refine S34 ?_ | refine S36 ?_ | refine S37 ?_ | refine S38 ?_ | refine S39 ?_ | refine S40 ?_ | refine S41 ?_ | refine S49 ?_ | refine S51 ?_ | refine S52 ?_ | refine S53 ?_ | refine S56 ?_ | refine S63 ?_ | refine S73 ?_)
  have hpw := fun i hi => p13_60 (q := q) (i := i) hq.2 hi
  refine CW.loopS (fun i : Nat => i ≤ n) (fun i => [(0, pint n), (1, pli w), (7, .lptr [pint q]), (13, pint K), (18, pint (q ^ i : Nat)), (99, pint n), (100, pint i)]) (fun _ _ => True) (fun i => n - i) 0 ⟨Nat.zero_le _, SLx, trivial⟩ ?_
  clear hp t
  rintro i t hp hi _
  first | simp only [updS] | simp only [updL, Nat.reduceAdd]
  by_cases hi2 : i < n
  · have h1 := hpw (i + 1) (by omega)
    have hms : ((q ^ i : Nat) : Int) * (q : Int) = ((q ^ (i + 1) : Nat) : Int) := by rw [Nat.pow_succ, Int.natCast_mul (q ^ i)]
    have hin : -1000000000 ≤ ((q ^ i : Nat) : Int) * (q : Int) ∧ ((q ^ i : Nat) : Int) * (q : Int) ≤ 1000000000 := by rw [hms]; omega
    repeat (first | refine S0 ?_ | refine S1 ?_ | refine S2 ?_ | refine S4 ?_ | refine S5 ?_ | refine S6 ?_ | refine S7 ?_ | refine S8 ?_ | refine S9 ?_ | refine S10 ?_ | refine S11 ?_ | refine S13 ?_ | refine S15 ?_ | refine S16 ?_ | refine S19 ?_ | refine S20 ?_ | refine S21 ?_ | refine S22 ?_ | refine S23 ?_ | refine S26 ?_ | refine S28 ?_ | refine S29 ?_ | refine S30 ?_ | refine S34 ?_ | refine S36 ?_ | refine S37 ?_ | refine S38 ?_ | refine S39 ?_ | refine S40 ?_ | refine S41 ?_ | refine S49 ?_ | refine S51 ?_ | refine S52 ?_ | refine S53 ?_ | refine S56 ?_ | refine S63 ?_ | refine S73 ?_)
    rw [hms]
    exact ⟨i + 1, hi2, SLx, trivial, by omega⟩
  · obtain rfl : i = n := by omega
    by_cases hall : q ^ i ≤ 20000
    case neg =>
      repeat (first | refine S0 ?_ | refine S1 ?_ | refine S2 ?_ | refine S4 ?_ | refine S5 ?_ | refine S6 ?_ | refine S7 ?_ | refine S8 ?_ | refine S9 ?_ | refine S10 ?_ | refine S11 ?_ | refine S13 ?_ | refine S15 ?_ | refine S16 ?_ | refine S19 ?_ | refine S20 ?_ | refine S21 ?_ | refine S22 ?_ | refine S23 ?_ | refine S26 ?_ | refine S28 ?_ | refine S29 ?_ | refine S30 ?_ | refine S34 ?_ | refine S36 ?_ | refine S37 ?_ | refine S38 ?_ | refine S39 ?_ | refine S40 ?_ | refine S41 ?_ | refine S49 ?_ | refine S51 ?_ | refine S52 ?_ | refine S53 ?_ | refine S56 ?_ | refine S63 ?_ | refine S73 ?_)
      exact ⟨.inr rfl, .cl rfl⟩
    repeat (first | refine S0 ?_ | refine S1 ?_ | refine S2 ?_ | refine S4 ?_ | refine S5 ?_ | refine S6 ?_ | refine S7 ?_ | refine S8 ?_ | refine S9 ?_ | refine S10 ?_ | refine S11 ?_ | refine S13 ?_ | refine S15 ?_ | refine S16 ?_ | refine S19 ?_ | refine S20 ?_ | refine S21 ?_ | refine S22 ?_ | refine S23 ?_ | refine S26 ?_ | refine S28 ?_ | refine S29 ?_ | refine S30 ?_ | refine S34 ?_ | refine S36 ?_ | refine S37 ?_ | refine S38 ?_ | refine S39 ?_ | refine S40 ?_ | refine S41 ?_ | refine S49 ?_ | refine S51 ?_ | refine S52 ?_ | refine S53 ?_ | refine S56 ?_ | refine S63 ?_ | refine S73 ?_)
    refine CW.loopS (fun e : Nat => e ≤ q ^ i) (fun e => [(0, pint i), (1, pli w), (7, .lptr [pint q]), (13, pint K), (18, pint (q ^ i : Nat)), (19, pint (((List.range e).filter fun t => decide (colW q w (nvi (dig q i t)) = nvi (dig q i t))).length : Nat)), (108, pint (q ^ i : Nat)), (109, pint e)]) (fun _ _ => True) (fun e => q ^ i - e) 0 ⟨Nat.zero_le _, SLx, trivial⟩ ?_
    clear hp t
    rintro e t hp he _
    first | simp only [updS] | simp only [updL, Nat.reduceAdd]
    have hcb : ((List.range e).filter fun t => decide (colW q w (nvi (dig q i t)) = nvi (dig q i t))).length ≤ e := Nat.le_trans (List.length_filter_le _ _) (by simp)
    by_cases he2 : e < q ^ i
    · have hcnt : ((List.range (e + 1)).filter fun t => decide (colW q w (nvi (dig q i t)) = nvi (dig q i t))).length = ((List.range e).filter fun t => decide (colW q w (nvi (dig q i t)) = nvi (dig q i t))).length + (if colW q w (nvi (dig q i e)) = nvi (dig q i e) then 1 else 0) := by
        rw [List.range_succ, List.filter_append, List.length_append]
        congr 1
        simp only [List.filter_cons, List.filter_nil]
        by_cases h : colW q w (nvi (dig q i e)) = nvi (dig q i e) <;> simp [h]
      have hdl : (dig q i e).length = i := dig_len q i e
      have hC : Cols i q (nvi (dig q i e)) := nvi_cols hdl (fun j hj => dig_lt hq.1 i e j hj)
      have hpl : (colW q w (nvi (dig q i e))).length = i := by rw [colW_len, hC.1]
      have kC := (colored_o hn6 hwl hwo hqi hC).sc (by rw [ints_length, hpl]; omega)
      rw [show PV.lst false 1 i (ints (colW q w (nvi (dig q i e)))) = pli (colW q w (nvi (dig q i e))) by unfold pli; rw [hpl]] at kC
      have keq2 := equal_s (colW q w (nvi (dig q i e))) (nvi (dig q i e))
      generalize hM : ((List.range e).filter fun t => decide (colW q w (nvi (dig q i t)) = nvi (dig q i t))).length = many at *
      repeat (first | refine S0 ?_ | refine S1 ?_ | refine S2 ?_ | refine S4 ?_ | refine S5 ?_ | refine S6 ?_ | refine S7 ?_ | refine S8 ?_ | refine S9 ?_ | refine S10 ?_ | refine S11 ?_ | refine S13 ?_ | refine S15 ?_ | refine S16 ?_ | refine S19 ?_ | refine S20 ?_ | refine S21 ?_ | refine S22 ?_ | refine S23 ?_ | refine S26 ?_ | refine S28 ?_ | refine S29 ?_ | refine S30 ?_ | refine S34 ?_ | refine S36 ?_ | refine S37 ?_ | refine S38 ?_ | refine S39 ?_ | refine S40 ?_ | refine S41 ?_ | refine S49 ?_ | refine S51 ?_ | refine S52 ?_ | refine S53 ?_ | refine S56 ?_ | refine S63 ?_ | refine S73 ?_)
      refine CW.own 21 1 rfl ?_
      refine CW.loopS (fun j : Nat × Nat => j.1 ≤ i ∧ j.2 % 2 = 0) (fun j => [(0, pint i), (1, pli w), (7, .lptr [pint q]), (13, pint K), (18, pint (q ^ i : Nat)), (19, pint (many : Nat)), (108, pint (q ^ i : Nat)), (109, pint e), (20, pint (e / q ^ j.1 : Nat)), (21, .ref j.2 0 1 j.1), (112, pint i), (113, pint j.1)]) (fun j hp => hp.blk j.2 = some (ints (nvi (dig q j.1 e))) ∧ j.2 < 2 * hp.next) (fun j => i - j.1) (0, hp.tok false) ⟨⟨Nat.zero_le _, HP.tok_even _⟩, ?_, ?_, (by first | omega | (simp only [HP.tokF, HP.tokT, HP.next_add, HP.next_set, HP.next_kill, HP.next_H0, HP.next_addS, HP.next_setS, HP.next_killS, HP.next_put, HP.next_bump, HP.next_putS]; omega))⟩ ?_
      · simp only [Nat.pow_zero, Nat.div_one]
        exact SLx
      · exact HP.add_same _ _ _
      clear hp t
      rintro ⟨j, to⟩ t hp ⟨hj, hto⟩ ⟨hB, hlt⟩
      simp only at hj hto hB hlt
      first | simp only [updS] | simp only [updL, Nat.reduceAdd]
      by_cases hj2 : j < i
      · have hds : nvi (dig q (j + 1) e) = nvi (dig q j e) ++ [((e / q ^ j % q : Nat) : Int)] := by rw [dig_snoc, nvi_snoc]
        have hdv : ((e / q ^ j : Nat) : Int) / (q : Int) = ((e / q ^ (j + 1) : Nat) : Int) := by rw [Nat.pow_succ, ← Nat.div_div_eq_div_mul, Int.natCast_ediv (e / q ^ j)]
        have hmd : ((e / q ^ j : Nat) : Int) % (q : Int) = ((e / q ^ j % q : Nat) : Int) := (Int.natCast_emod _ _).symm
        have hle : e / q ^ j ≤ e := Nat.div_le_self _ _
        have hdl2 : (nvi (dig q j e)).length = j := by rw [nvi_len, dig_len]
        generalize e / q ^ j = z at *
        generalize nvi (dig q j e) = v at *
        repeat (first | refine S0 ?_ | refine S1 ?_ | refine S2 ?_ | refine S4 ?_ | refine S5 ?_ | refine S6 ?_ | refine S7 ?_ | refine S8 ?_ | refine S9 ?_ | refine S10 ?_ | refine S11 ?_ | refine S13 ?_ | refine S15 ?_ | refine S16 ?_ | refine S19 ?_ | refine S20 ?_ | refine S21 ?_ | refine S22 ?_ | refine S23 ?_ | refine S26 ?_ | refine S28 ?_ | refine S29 ?_ | refine S30 ?_ | refine S34 ?_ | refine S36 ?_ | refine S37 ?_ | refine S38 ?_ | refine S39 ?_ | refine S40 ?_ | refine S41 ?_ | refine S49 ?_ | refine S51 ?_ | refine S52 ?_ | refine S53 ?_ | refine S56 ?_ | refine S63 ?_ | refine S73 ?_)
        rw [hmd, hdv]
        exact ⟨(j + 1, hp.tok false), ⟨hj2, HP.tok_even _⟩, SLx, ⟨by rw [hds]; exact HBx, (by first | omega | (simp only [HP.tokF, HP.tokT, HP.next_add, HP.next_set, HP.next_kill, HP.next_H0, HP.next_addS, HP.next_setS, HP.next_killS, HP.next_put, HP.next_bump, HP.next_putS]; omega))⟩, by simp only; omega⟩
      · obtain rfl : j = i := by omega
        have hvl : (nvi (dig q j e)).length = j := by rw [nvi_len, dig_len]
        refine CW.freezeI (xs := nvi (dig q j e)) 21 (by rw [hvl]; rfl) hB ?_
        generalize nvi (dig q j e) = v at *
        repeat (first | refine S0 ?_ | refine S1 ?_ | refine S2 ?_ | refine S4 ?_ | refine S5 ?_ | refine S6 ?_ | refine S7 ?_ | refine S8 ?_ | refine S9 ?_ | refine S10 ?_ | refine S11 ?_ | refine S13 ?_ | refine S15 ?_ | refine S16 ?_ | refine S19 ?_ | refine S20 ?_ | refine S21 ?_ | refine S22 ?_ | refine S23 ?_ | refine S26 ?_ | refine S28 ?_ | refine S29 ?_ | refine S30 ?_ | refine S34 ?_ | refine S36 ?_ | refine S37 ?_ | refine S38 ?_ | refine S39 ?_ | refine S40 ?_ | refine S41 ?_ | refine S49 ?_ | refine S51 ?_ | refine S52 ?_ | refine S53 ?_ | refine S56 ?_ | refine S63 ?_ | refine S73 ?_)
        refine Scall (args := [pli w, pli v, pint q]) kC ?_
        repeat (first | refine S0 ?_ | refine S1 ?_ | refine S2 ?_ | refine S4 ?_ | refine S5 ?_ | refine S6 ?_ | refine S7 ?_ | refine S8 ?_ | refine S9 ?_ | refine S10 ?_ | refine S11 ?_ | refine S13 ?_ | refine S15 ?_ | refine S16 ?_ | refine S19 ?_ | refine S20 ?_ | refine S21 ?_ | refine S22 ?_ | refine S23 ?_ | refine S26 ?_ | refine S28 ?_ | refine S29 ?_ | refine S30 ?_ | refine S34 ?_ | refine S36 ?_ | refine S37 ?_ | refine S38 ?_ | refine S39 ?_ | refine S40 ?_ | refine S41 ?_ | refine S49 ?_ | refine S51 ?_ | refine S52 ?_ | refine S53 ?_ | refine S56 ?_ | refine S63 ?_ | refine S73 ?_)
        refine Scall (args := [pli (colW q w v), pli v]) keq2 ?_
        by_cases hf : colW q w v = v
        · rw [if_pos hf] at hcnt
          repeat (first | refine S0 ?_ | refine S1 ?_ | refine S2 ?_ | refine S4 ?_ | refine S5 ?_ | refine S6 ?_ | refine S7 ?_ | refine S8 ?_ | refine S9 ?_ | refine S10 ?_ | refine S11 ?_ | refine S13 ?_ | refine S15 ?_ | refine S16 ?_ | refine S19 ?_ | refine S20 ?_ | refine S21 ?_ | refine S22 ?_ | refine S23 ?_ | refine S26 ?_ | refine S28 ?_ | refine S29 ?_ | refine S30 ?_ | refine S34 ?_ | refine S36 ?_ | refine S37 ?_ | refine S38 ?_ | refine S39 ?_ | refine S40 ?_ | refine S41 ?_ | refine S49 ?_ | refine S51 ?_ | refine S52 ?_ | refine S53 ?_ | refine S56 ?_ | refine S63 ?_ | refine S73 ?_)
          exact ⟨e + 1, he2, by rw [hcnt]; exact SLx, trivial, by omega⟩
        · rw [if_neg hf] at hcnt
          repeat (first | refine S0 ?_ | refine S1 ?_ | refine S2 ?_ | refine S4 ?_ | refine S5 ?_ | refine S6 ?_ | refine S7 ?_ | refine S8 ?_ | refine S9 ?_ | refine S10 ?_ | refine S11 ?_ | refine S13 ?_ | refine S15 ?_ | refine S16 ?_ | refine S19 ?_ | refine S20 ?_ | refine S21 ?_ | refine S22 ?_ | refine S23 ?_ | refine S26 ?_ | refine S28 ?_ | refine S29 ?_ | refine S30 ?_ | refine S34 ?_ | refine S36 ?_ | refine S37 ?_ | refine S38 ?_ | refine S39 ?_ | refine S40 ?_ | refine S41 ?_ | refine S49 ?_ | refine S51 ?_ | refine S52 ?_ | refine S53 ?_ | refine S56 ?_ | refine S63 ?_ | refine S73 ?_)
          exact ⟨e + 1, he2, by rw [hcnt]; exact SLx, trivial, by omega⟩
    · obtain rfl : e = q ^ i := by omega
      rw [show ((List.range (q ^ i)).filter fun t => decide (colW q w (nvi (dig q i t)) = nvi (dig q i t))).length = K from hK.symm]
      repeat (first | refine S0 ?_ | refine S1 ?_ | refine S2 ?_ | refine S4 ?_ | refine S5 ?_ | refine S6 ?_ | refine S7 ?_ | refine S8 ?_ | refine S9 ?_ | refine S10 ?_ | refine S11 ?_ | refine S13 ?_ | refine S15 ?_ | refine S16 ?_ | refine S19 ?_ | refine S20 ?_ | refine S21 ?_ | refine S22 ?_ | refine S23 ?_ | refine S26 ?_ | refine S28 ?_ | refine S29 ?_ | refine S30 ?_ | refine S34 ?_ | refine S36 ?_ | refine S37 ?_ | refine S38 ?_ | refine S39 ?_ | refine S40 ?_ | refine S41 ?_ | refine S49 ?_ | refine S51 ?_ | refine S52 ?_ | refine S53 ?_ | refine S56 ?_ | refine S63 ?_ | refine S73 ?_)
      exact ⟨.inr rfl, .cl rfl⟩
theorem colors_law (n : Int) (w c : List Int) (q : Int) : SC Try.prog 7 [pint n, pli w, pli c, pint q] (.sc (.bool true)) := by
  by_cases hx : bF n w ≠ 0 ∨ q < 1 ∨ 13 < q
  · exact colors_bad hx
  · have h0 : bF n w = 0 := Classical.byContradiction fun h => hx (.inl h)
    obtain ⟨m, rfl, hm, hw⟩ := Wd.of h0
    obtain ⟨p, rfl⟩ : ∃ p : Nat, q = (p : Int) := ⟨q.toNat, by omega⟩
    exact colors_ok hm hw h0 (by omega)
end Go.Proofs.Ytgjfpmjllpgadaa
