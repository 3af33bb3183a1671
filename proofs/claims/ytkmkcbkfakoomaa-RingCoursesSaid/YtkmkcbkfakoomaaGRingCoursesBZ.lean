/- Facts and contracts that the claim uses. No condition of its own. -/
import Derived.Test.YtkmkcbkfakoomaaGRingCoursesBV
import Derived.Test.YtkmkcbkfakoomaaGRingCoursesBW
import Derived.Test.YtkmkcbkfakoomaaGRingCoursesBY
set_option linter.unusedVariables false
set_option linter.unusedSimpArgs false
namespace Go.Proofs.Ytkmkcbkfakoomaa
open Go.RowKit
set_option maxHeartbeats 8000000 in
set_option maxRecDepth 100000 in
theorem ringCourses_s (n : Int) (l : List Int) (k : Int) : SC Try.prog 4 [pint n, pli l, pint k] (.sc (.bool true)) := by
  have kc := course_s n l
  have kx := extent_s k
  have kf := cfault_s n l
  have hE0 : chE n l ≠ 0 → crE n l = chE n l := fun h => if_pos h
  have hL0 : crE n l ≠ 0 → crL n l = [] := fun h => if_neg h
  refine SC.go {} tok mixed Try.func4 rfl rfl Try.ntmps4 rfl rfl (by kernel_rfl) ?_
  first | simp only [updS] | simp only [updL, Nat.reduceAdd]
  repeat (first | refine S0 ?_ | refine S1 ?_ | refine S2 ?_ | refine S4 ?_ | refine S5 ?_ | refine S6 ?_ | refine S7 ?_ | refine S8 ?_ | refine S9 ?_ | refine S10 ?_ | refine S11 ?_ | refine S13 ?_ | refine S15 ?_ | refine S16 ?_ | refine S19 ?_ | refine S20 ?_ | refine S21 ?_ | refine S22 ?_ | refine S23 ?_ | refine S25 ?_ | refine S26 ?_ | refine S28 ?_ | refine S29 ?_ | refine S30 ?_ | refine S34 ?_ | refine S36 ?_ | refine S37 ?_ | refine S38 ?_ | refine S40 ?_ | refine S41 ?_)
  refine Scall (args := [pint n, pli l]) kc ?_
  repeat (first | refine S0 ?_ | refine S1 ?_ | refine S2 ?_ | refine S4 ?_ | refine S5 ?_ | refine S6 ?_ | refine S7 ?_ | refine S8 ?_ | refine S9 ?_ | refine S10 ?_ | refine S11 ?_ | refine S13 ?_ | refine S15 ?_ | refine S16 ?_ | refine S19 ?_ | refine S20 ?_ | refine S21 ?_ | refine S22 ?_ | refine S23 ?_ | refine S25 ?_ | refine S26 ?_ | refine S28 ?_ | refine S29 ?_ | refine S30 ?_ | refine S34 ?_ | refine S36 ?_ | refine S37 ?_ | refine S38 ?_ | refine S40 ?_ | refine S41 ?_)
  refine Scall (args := [pint k]) kx ?_
  repeat (first | refine S0 ?_ | refine S1 ?_ | refine S2 ?_ | refine S4 ?_ | refine S5 ?_ | refine S6 ?_ | refine S7 ?_ | refine S8 ?_ | refine S9 ?_ | refine S10 ?_ | refine S11 ?_ | refine S13 ?_ | refine S15 ?_ | refine S16 ?_ | refine S19 ?_ | refine S20 ?_ | refine S21 ?_ | refine S22 ?_ | refine S23 ?_ | refine S25 ?_ | refine S26 ?_ | refine S28 ?_ | refine S29 ?_ | refine S30 ?_ | refine S34 ?_ | refine S36 ?_ | refine S37 ?_ | refine S38 ?_ | refine S40 ?_ | refine S41 ?_)
  refine Scall (args := [pint n, pli l]) kf ?_
  repeat (first | refine S0 ?_ | refine S1 ?_ | refine S2 ?_ | refine S4 ?_ | refine S5 ?_ | refine S6 ?_ | refine S7 ?_ | refine S8 ?_ | refine S9 ?_ | refine S10 ?_ | refine S11 ?_ | refine S13 ?_ | refine S15 ?_ | refine S16 ?_ | refine S19 ?_ | refine S20 ?_ | refine S21 ?_ | refine S22 ?_ | refine S23 ?_ | refine S25 ?_ | refine S26 ?_ | refine S28 ?_ | refine S29 ?_ | refine S30 ?_ | refine S34 ?_ | refine S36 ?_ | refine S37 ?_ | refine S38 ?_ | refine S40 ?_ | refine S41 ?_)
  refine Scall (args := []) rung_s ?_
  repeat (first | refine S0 ?_ | refine S1 ?_ | refine S2 ?_ | refine S4 ?_ | refine S5 ?_ | refine S6 ?_ | refine S7 ?_ | refine S8 ?_ | refine S9 ?_ | refine S10 ?_ | refine S11 ?_ | refine S13 ?_ | refine S15 ?_ | refine S16 ?_ | refine S19 ?_ | refine S20 ?_ | refine S21 ?_ | refine S22 ?_ | refine S23 ?_ | refine S25 ?_ | refine S26 ?_ | refine S28 ?_ | refine S29 ?_ | refine S30 ?_ | refine S34 ?_ | refine S36 ?_ | refine S37 ?_ | refine S38 ?_ | refine S40 ?_ | refine S41 ?_)
  refine CW.midS (fun i : Bool => i = true → crL n l = []) (fun i => [(2, pint k), (7, pli (crL n l)), (8, pint (crE n l)), (9, pli (etL k)), (10, pint (etE k)), (11, pint (crE n l)), (12, if i then .lst true 0 0 [] else pli (crL n l))]) (fun _ _ => True) ?_ ?_
  · by_cases h0 : chE n l = 0
    · obtain ⟨h1, h2, h3, h4⟩ := chE_ok h0
      obtain ⟨hk1, hk2⟩ := crK_bd h0
      obtain ⟨m, rfl⟩ : ∃ m : Nat, n = m := ⟨n.toNat, by omega⟩
      rw [Int.toNat_natCast] at h4
      have kr := row_s m (by omega)
      have hf := (rowN_rw (n := m) l (by omega) l.length).fault (by omega)
      have ko := period_s hf
      have hcK : crK m l = orderOf (rowN m l l.length) := by unfold crK; rw [Int.toNat_natCast]
      rw [← hcK] at ko
      have hEq : crE m l = if 5040 < l.length * crK m l then 2 else 0 := if_neg (fun c => c h0)
      have hLq : crE m l = 0 → crL m l = rp l (crK m l) := fun h => if_pos h
      have hml : l.length * crK m l ≤ 5040 * 2520 := Nat.mul_le_mul h3 hk2
      have krp := repeat_s (d := l) hk1 (by omega) (by omega)
      have hrl := rp_len l (crK m l)
      generalize crK m l = K at *
      repeat (first | refine S0 ?_ | refine S1 ?_ | refine S2 ?_ | refine S4 ?_ | refine S5 ?_ | refine S6 ?_ | refine S7 ?_ | refine S8 ?_ | refine S9 ?_ | refine S10 ?_ | refine S11 ?_ | refine S13 ?_ | refine S15 ?_ | refine S16 ?_ | refine S19 ?_ | refine S20 ?_ | refine S21 ?_ | refine S22 ?_ | refine S23 ?_ | refine S25 ?_ | refine S26 ?_ | refine S28 ?_ | refine S29 ?_ | refine S30 ?_ | refine S34 ?_ | refine S36 ?_ | refine S37 ?_ | refine S38 ?_ | refine S40 ?_ | refine S41 ?_)
      refine Scall (args := [pint m]) kr ?_
      repeat (first | refine S0 ?_ | refine S1 ?_ | refine S2 ?_ | refine S4 ?_ | refine S5 ?_ | refine S6 ?_ | refine S7 ?_ | refine S8 ?_ | refine S9 ?_ | refine S10 ?_ | refine S11 ?_ | refine S13 ?_ | refine S15 ?_ | refine S16 ?_ | refine S19 ?_ | refine S20 ?_ | refine S21 ?_ | refine S22 ?_ | refine S23 ?_ | refine S25 ?_ | refine S26 ?_ | refine S28 ?_ | refine S29 ?_ | refine S30 ?_ | refine S34 ?_ | refine S36 ?_ | refine S37 ?_ | refine S38 ?_ | refine S40 ?_ | refine S41 ?_)
      refine CW.loopS (fun i : Nat => i ≤ l.length) (fun i => [(1, pli l), (2, pint k), (7, pli (crL m l)), (8, pint (crE m l)), (9, pli (etL k)), (10, pint (etE k)), (11, pint (chE m l)), (13, pli (rowN m l i)), (36, pli l), (37, pint l.length), (38, pint i)]) (fun _ _ => True) (fun i => l.length - i) 0 ⟨Nat.zero_le _, SLx, trivial⟩ ?_
      rintro i t hp hi _
      first | simp only [updS] | simp only [updL, Nat.reduceAdd]
      by_cases hi2 : i < l.length
      · have hrn : (rowN m l i).length = m := (rowN_rw l (by omega) i).len
        have hgk := h4 (l.getD i 0) (by rw [getD_lt 0 hi2]; exact List.getElem_mem hi2)
        have hglt := gdC_lt hgk (by omega)
        obtain ⟨c, hc⟩ : ∃ c : Nat, l.getD i 0 = c := ⟨(l.getD i 0).toNat, by omega⟩
        have hrs := rring_s (row := rowN m l i) (by omega) (c := c) (by omega) (by have := gdC_adj hgk (by omega); rwa [hc] at this)
        have hrn2 : rng (rowN m l i) c = rowN m l (i + 1) := by show _ = rng (rowN m l i) (l.getD i 0).toNat; rw [hc]; rfl
        rw [hrn2] at hrs
        repeat (first | refine S0 ?_ | refine S1 ?_ | refine S2 ?_ | refine S4 ?_ | refine S5 ?_ | refine S6 ?_ | refine S7 ?_ | refine S8 ?_ | refine S9 ?_ | refine S10 ?_ | refine S11 ?_ | refine S13 ?_ | refine S15 ?_ | refine S16 ?_ | refine S19 ?_ | refine S20 ?_ | refine S21 ?_ | refine S22 ?_ | refine S23 ?_ | refine S25 ?_ | refine S26 ?_ | refine S28 ?_ | refine S29 ?_ | refine S30 ?_ | refine S34 ?_ | refine S36 ?_ | refine S37 ?_ | refine S38 ?_ | refine S40 ?_ | refine S41 ?_)
        rw [hc]
        refine Scall (args := [pli (rowN m l i), pint (c : Nat)]) hrs ?_
        repeat (first | refine S0 ?_ | refine S1 ?_ | refine S2 ?_ | refine S4 ?_ | refine S5 ?_ | refine S6 ?_ | refine S7 ?_ | refine S8 ?_ | refine S9 ?_ | refine S10 ?_ | refine S11 ?_ | refine S13 ?_ | refine S15 ?_ | refine S16 ?_ | refine S19 ?_ | refine S20 ?_ | refine S21 ?_ | refine S22 ?_ | refine S23 ?_ | refine S25 ?_ | refine S26 ?_ | refine S28 ?_ | refine S29 ?_ | refine S30 ?_ | refine S34 ?_ | refine S36 ?_ | refine S37 ?_ | refine S38 ?_ | refine S40 ?_ | refine S41 ?_)
        exact ⟨i + 1, by omega, SLx, trivial, by omega⟩
      · obtain rfl : i = l.length := by omega
        repeat (first | refine S0 ?_ | refine S1 ?_ | refine S2 ?_ | refine S4 ?_ | refine S5 ?_ | refine S6 ?_ | refine S7 ?_ | refine S8 ?_ | refine S9 ?_ | refine S10 ?_ | refine S11 ?_ | refine S13 ?_ | refine S15 ?_ | refine S16 ?_ | refine S19 ?_ | refine S20 ?_ | refine S21 ?_ | refine S22 ?_ | refine S23 ?_ | refine S25 ?_ | refine S26 ?_ | refine S28 ?_ | refine S29 ?_ | refine S30 ?_ | refine S34 ?_ | refine S36 ?_ | refine S37 ?_ | refine S38 ?_ | refine S40 ?_ | refine S41 ?_)
        refine Scall (args := [pli (rowN m l l.length)]) ko ?_
        repeat (first | refine S0 ?_ | refine S1 ?_ | refine S2 ?_ | refine S4 ?_ | refine S5 ?_ | refine S6 ?_ | refine S7 ?_ | refine S8 ?_ | refine S9 ?_ | refine S10 ?_ | refine S11 ?_ | refine S13 ?_ | refine S15 ?_ | refine S16 ?_ | refine S19 ?_ | refine S20 ?_ | refine S21 ?_ | refine S22 ?_ | refine S23 ?_ | refine S25 ?_ | refine S26 ?_ | refine S28 ?_ | refine S29 ?_ | refine S30 ?_ | refine S34 ?_ | refine S36 ?_ | refine S37 ?_ | refine S38 ?_ | refine S40 ?_ | refine S41 ?_)
        refine Scall (args := [pli l, pint K]) krp ?_
        by_cases hl : 5040 < l.length * K
        · rw [if_pos hl] at hEq
          have hl2 : 5040 < (rp l K).length := by omega
          rw [hL0 (by rw [hEq]; decide), hEq]
          repeat (first | refine S0 ?_ | refine S1 ?_ | refine S2 ?_ | refine S4 ?_ | refine S5 ?_ | refine S6 ?_ | refine S7 ?_ | refine S8 ?_ | refine S9 ?_ | refine S10 ?_ | refine S11 ?_ | refine S13 ?_ | refine S15 ?_ | refine S16 ?_ | refine S19 ?_ | refine S20 ?_ | refine S21 ?_ | refine S22 ?_ | refine S23 ?_ | refine S25 ?_ | refine S26 ?_ | refine S28 ?_ | refine S29 ?_ | refine S30 ?_ | refine S34 ?_ | refine S36 ?_ | refine S37 ?_ | refine S38 ?_ | refine S40 ?_ | refine S41 ?_)
          exact ⟨true, fun _ => rfl, SLx, trivial⟩
        · rw [if_neg hl] at hEq
          have hl2 : ¬ 5040 < (rp l K).length := by omega
          rw [hLq hEq, hEq, h0]
          repeat (first | refine S0 ?_ | refine S1 ?_ | refine S2 ?_ | refine S4 ?_ | refine S5 ?_ | refine S6 ?_ | refine S7 ?_ | refine S8 ?_ | refine S9 ?_ | refine S10 ?_ | refine S11 ?_ | refine S13 ?_ | refine S15 ?_ | refine S16 ?_ | refine S19 ?_ | refine S20 ?_ | refine S21 ?_ | refine S22 ?_ | refine S23 ?_ | refine S25 ?_ | refine S26 ?_ | refine S28 ?_ | refine S29 ?_ | refine S30 ?_ | refine S34 ?_ | refine S36 ?_ | refine S37 ?_ | refine S38 ?_ | refine S40 ?_ | refine S41 ?_)
          exact ⟨false, (fun h => by cases h), SLx, trivial⟩
    · have hx : crL n l = [] := hL0 (by rw [hE0 h0]; exact h0)
      rw [hE0 h0, hx]
      repeat (first | refine S0 ?_ | refine S1 ?_ | refine S2 ?_ | refine S4 ?_ | refine S5 ?_ | refine S6 ?_ | refine S7 ?_ | refine S8 ?_ | refine S9 ?_ | refine S10 ?_ | refine S11 ?_ | refine S13 ?_ | refine S15 ?_ | refine S16 ?_ | refine S19 ?_ | refine S20 ?_ | refine S21 ?_ | refine S22 ?_ | refine S23 ?_ | refine S25 ?_ | refine S26 ?_ | refine S28 ?_ | refine S29 ?_ | refine S30 ?_ | refine S34 ?_ | refine S36 ?_ | refine S37 ?_ | refine S38 ?_ | refine S40 ?_ | refine S41 ?_)
      exact ⟨true, fun _ => rfl, SLx, trivial⟩
  · rintro i t hp hi _
    first | simp only [updS] | simp only [updL, Nat.reduceAdd]
    have ke : SC Try.prog 15 [pli (crL n l), if i then .lst true 0 0 [] else pli (crL n l)] (.sc (.bool true)) := by
      have := equal_s (crL n l) (crL n l)
      rw [decide_eq_true rfl] at this
      cases i with
      | true =>
        rw [hi rfl] at this ⊢
        exact SC.weak this rfl
      | false => exact this
    have hcl : (if i then PV.lst true 0 0 [] else pli (crL n l)).cl = true := by cases i with
      | true => rfl
      | false => exact pli_cl _
    generalize (if i then PV.lst true 0 0 [] else pli (crL n l)) = W at *
    repeat (first | refine S0 ?_ | refine S1 ?_ | refine S2 ?_ | refine S4 ?_ | refine S5 ?_ | refine S6 ?_ | refine S7 ?_ | refine S8 ?_ | refine S9 ?_ | refine S10 ?_ | refine S11 ?_ | refine S13 ?_ | refine S15 ?_ | refine S16 ?_ | refine S19 ?_ | refine S20 ?_ | refine S21 ?_ | refine S22 ?_ | refine S23 ?_ | refine S25 ?_ | refine S26 ?_ | refine S28 ?_ | refine S29 ?_ | refine S30 ?_ | refine S34 ?_ | refine S36 ?_ | refine S37 ?_ | refine S38 ?_ | refine S40 ?_ | refine S41 ?_)
    refine Scall (args := [pli (crL n l), W]) (hc := by simp only [PV.cl.clL, pli_cl, hcl, Bool.and_self]) ke ?_
    have hnil : ([] : List Int).length = 0 := rfl
    by_cases h1 : k < 2
    · rw [show etL k = [] from if_pos (.inl h1), show etE k = 1 from if_pos (.inl h1)]
      repeat (first | refine S0 ?_ | refine S1 ?_ | refine S2 ?_ | refine S4 ?_ | refine S5 ?_ | refine S6 ?_ | refine S7 ?_ | refine S8 ?_ | refine S9 ?_ | refine S10 ?_ | refine S11 ?_ | refine S13 ?_ | refine S15 ?_ | refine S16 ?_ | refine S19 ?_ | refine S20 ?_ | refine S21 ?_ | refine S22 ?_ | refine S23 ?_ | refine S25 ?_ | refine S26 ?_ | refine S28 ?_ | refine S29 ?_ | refine S30 ?_ | refine S34 ?_ | refine S36 ?_ | refine S37 ?_ | refine S38 ?_ | refine S40 ?_ | refine S41 ?_)
      exact ⟨.inr rfl, .cl rfl⟩
    by_cases h2 : 7 < k
    · rw [show etL k = [] from if_pos (.inr h2), show etE k = 1 from if_pos (.inr h2)]
      repeat (first | refine S0 ?_ | refine S1 ?_ | refine S2 ?_ | refine S4 ?_ | refine S5 ?_ | refine S6 ?_ | refine S7 ?_ | refine S8 ?_ | refine S9 ?_ | refine S10 ?_ | refine S11 ?_ | refine S13 ?_ | refine S15 ?_ | refine S16 ?_ | refine S19 ?_ | refine S20 ?_ | refine S21 ?_ | refine S22 ?_ | refine S23 ?_ | refine S25 ?_ | refine S26 ?_ | refine S28 ?_ | refine S29 ?_ | refine S30 ?_ | refine S34 ?_ | refine S36 ?_ | refine S37 ?_ | refine S38 ?_ | refine S40 ?_ | refine S41 ?_)
      exact ⟨.inr rfl, .cl rfl⟩
    obtain ⟨m, rfl⟩ : ∃ m : Nat, k = m := ⟨k.toNat, by omega⟩
    rw [show etL (m : Int) = exL m by unfold etL; rw [if_neg (by omega), Int.toNat_natCast], show etE (m : Int) = 0 from if_neg (by omega)]
    have kp : SC Try.prog 20 [pint m] (pli (exL m)) := (plain_o m (by omega) (by omega)).sc (by simp)
    have kq := equal_s (exL m) (exL m)
    rw [decide_eq_true rfl] at kq
    repeat (first | refine S0 ?_ | refine S1 ?_ | refine S2 ?_ | refine S4 ?_ | refine S5 ?_ | refine S6 ?_ | refine S7 ?_ | refine S8 ?_ | refine S9 ?_ | refine S10 ?_ | refine S11 ?_ | refine S13 ?_ | refine S15 ?_ | refine S16 ?_ | refine S19 ?_ | refine S20 ?_ | refine S21 ?_ | refine S22 ?_ | refine S23 ?_ | refine S25 ?_ | refine S26 ?_ | refine S28 ?_ | refine S29 ?_ | refine S30 ?_ | refine S34 ?_ | refine S36 ?_ | refine S37 ?_ | refine S38 ?_ | refine S40 ?_ | refine S41 ?_)
    refine Scall (args := [pint m]) kp ?_
    repeat (first | refine S0 ?_ | refine S1 ?_ | refine S2 ?_ | refine S4 ?_ | refine S5 ?_ | refine S6 ?_ | refine S7 ?_ | refine S8 ?_ | refine S9 ?_ | refine S10 ?_ | refine S11 ?_ | refine S13 ?_ | refine S15 ?_ | refine S16 ?_ | refine S19 ?_ | refine S20 ?_ | refine S21 ?_ | refine S22 ?_ | refine S23 ?_ | refine S25 ?_ | refine S26 ?_ | refine S28 ?_ | refine S29 ?_ | refine S30 ?_ | refine S34 ?_ | refine S36 ?_ | refine S37 ?_ | refine S38 ?_ | refine S40 ?_ | refine S41 ?_)
    refine Scall (args := [pli (exL m), pli (exL m)]) kq ?_
    repeat (first | refine S0 ?_ | refine S1 ?_ | refine S2 ?_ | refine S4 ?_ | refine S5 ?_ | refine S6 ?_ | refine S7 ?_ | refine S8 ?_ | refine S9 ?_ | refine S10 ?_ | refine S11 ?_ | refine S13 ?_ | refine S15 ?_ | refine S16 ?_ | refine S19 ?_ | refine S20 ?_ | refine S21 ?_ | refine S22 ?_ | refine S23 ?_ | refine S25 ?_ | refine S26 ?_ | refine S28 ?_ | refine S29 ?_ | refine S30 ?_ | refine S34 ?_ | refine S36 ?_ | refine S37 ?_ | refine S38 ?_ | refine S40 ?_ | refine S41 ?_)
    exact ⟨.inr rfl, .cl rfl⟩
end Go.Proofs.Ytkmkcbkfakoomaa
