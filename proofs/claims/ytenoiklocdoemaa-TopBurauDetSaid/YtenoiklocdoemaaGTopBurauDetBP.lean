/- timbmake: Below, Strands, Letter, Word. No condition of its own. -/
import Derived.Test.YtenoiklocdoemaaGTopBurauDetBO
set_option linter.unusedVariables false
set_option linter.unusedSimpArgs false
namespace Go.Proofs.Ytenoiklocdoemaa
open Go.RowKit

theorem below_eq (n m : Int) (hm : 0 < m) : (if n.tmod m < 0 then n.tmod m + m else n.tmod m) = n % m := by
  have h1 := Int.emod_nonneg n (show m ≠ 0 by omega)
  have h2 := Int.emod_lt_of_pos n hm
  rw [Int.tmod_eq_emod]
  split
  · split at * <;> omega
  · split at * <;> omega
set_option maxHeartbeats 2000000 in
set_option maxRecDepth 100000 in
theorem below_s (n m : Int) (hm : 0 < m ∧ m ≤ 1000) : SC Try.prog 36 [pint n, pint m] (pint (n % m)) := by
  have hb := below_eq n m hm.1
  have h1 := Int.emod_nonneg n (show m ≠ 0 by omega)
  have h2 := Int.emod_lt_of_pos n hm.1
  have h3 : -m ≤ n.tmod m ∧ n.tmod m < m := by
    split at hb <;> omega
  refine SC.go {} tok mixed Try.func36 rfl rfl Try.ntmps36 rfl rfl (by kernel_rfl) ?_
  first | simp only [updS] | simp only [updL, Nat.reduceAdd]
  by_cases hn : n.tmod m < 0
  · rw [if_pos hn] at hb
    repeat (first | refine S0 ?_ | refine S1 ?_ | refine S2 ?_ | refine S4 ?_ | refine S5 ?_ | refine S6 ?_ | refine S7 ?_ | refine S8 ?_ | refine S9 ?_ | refine S10 ?_ | refine S11 ?_ | refine S13 ?_ | refine S15 ?_ | refine S16 ?_ | refine S19 ?_ | refine S20 ?_ | refine S21 ?_ | refine S22 ?_ | refine S23 ?_ | refine S25 ?_ | refine S26 ?_ | refine S33 ?_ | refine S35 ?_ | refine S49 ?_ | refine S51 ?_ | refine S55 ?_ | refine S60 ?_ | refine S63 ?_ | refine S76 ?_)
    rw [← hb]
    exact ⟨.inr rfl, .cl rfl⟩
  · rw [if_neg hn] at hb
    repeat (first | refine S0 ?_ | refine S1 ?_ | refine S2 ?_ | refine S4 ?_ | refine S5 ?_ | refine S6 ?_ | refine S7 ?_ | refine S8 ?_ | refine S9 ?_ | refine S10 ?_ | refine S11 ?_ | refine S13 ?_ | refine S15 ?_ | refine S16 ?_ | refine S19 ?_ | refine S20 ?_ | refine S21 ?_ | refine S22 ?_ | refine S23 ?_ | refine S25 ?_ | refine S26 ?_ | refine S33 ?_ | refine S35 ?_ | refine S49 ?_ | refine S51 ?_ | refine S55 ?_ | refine S60 ?_ | refine S63 ?_ | refine S76 ?_)
    rw [← hb]
    exact ⟨.inr rfl, .cl rfl⟩
set_option maxHeartbeats 2000000 in
set_option maxRecDepth 100000 in
theorem strands_s (n m : Int) (hm : 2 ≤ m ∧ m ≤ 100) : SC Try.prog 16 [pint n, pint m] (pint (2 + n % (m - 1))) := by
  have hk := below_s n (m - 1) (by omega)
  have h1 := Int.emod_nonneg n (show m - 1 ≠ 0 by omega)
  have h2 := Int.emod_lt_of_pos n (show 0 < m - 1 by omega)
  refine SC.go {} tok mixed Try.func16 rfl rfl Try.ntmps16 rfl rfl (by kernel_rfl) ?_
  first | simp only [updS] | simp only [updL, Nat.reduceAdd]
  repeat (first | refine S0 ?_ | refine S1 ?_ | refine S2 ?_ | refine S4 ?_ | refine S5 ?_ | refine S6 ?_ | refine S7 ?_ | refine S8 ?_ | refine S9 ?_ | refine S10 ?_ | refine S11 ?_ | refine S13 ?_ | refine S15 ?_ | refine S16 ?_ | refine S19 ?_ | refine S20 ?_ | refine S21 ?_ | refine S22 ?_ | refine S23 ?_ | refine S25 ?_ | refine S26 ?_ | refine S33 ?_ | refine S35 ?_ | refine S49 ?_ | refine S51 ?_ | refine S55 ?_ | refine S60 ?_ | refine S63 ?_ | refine S76 ?_)
  refine Scall (args := [pint n, pint (m - 1)]) hk ?_
  repeat (first | refine S0 ?_ | refine S1 ?_ | refine S2 ?_ | refine S4 ?_ | refine S5 ?_ | refine S6 ?_ | refine S7 ?_ | refine S8 ?_ | refine S9 ?_ | refine S10 ?_ | refine S11 ?_ | refine S13 ?_ | refine S15 ?_ | refine S16 ?_ | refine S19 ?_ | refine S20 ?_ | refine S21 ?_ | refine S22 ?_ | refine S23 ?_ | refine S25 ?_ | refine S26 ?_ | refine S33 ?_ | refine S35 ?_ | refine S49 ?_ | refine S51 ?_ | refine S55 ?_ | refine S60 ?_ | refine S63 ?_ | refine S76 ?_)
  exact ⟨.inr rfl, .cl rfl⟩
def mkL (top x : Int) : Int := if x % (2 * top) < top then x % (2 * top) + 1 else -(x % (2 * top) - top + 1)
def mkW (top : Int) (raw : List Int) (most : Nat) : List Int := (raw.take most).map (mkL top)
theorem mkL_let {top x : Int} (ht : 1 ≤ top) : letP (top + 1) (mkL top x) := by
  have h1 := Int.emod_nonneg x (show 2 * top ≠ 0 by omega)
  have h2 := Int.emod_lt_of_pos x (show 0 < 2 * top by omega)
  unfold mkL letP
  split <;> omega
set_option maxHeartbeats 2000000 in
set_option maxRecDepth 100000 in
theorem letter_t (x top : Int) (ht : 1 ≤ top ∧ top ≤ 100) : SC Try.prog 37 [pint x, pint top] (pint (mkL top x)) := by
  have hk := below_s x (2 * top) (by omega)
  have h1 := Int.emod_nonneg x (show 2 * top ≠ 0 by omega)
  have h2 := Int.emod_lt_of_pos x (show 0 < 2 * top by omega)
  unfold mkL
  refine SC.go {} tok mixed Try.func37 rfl rfl Try.ntmps37 rfl rfl (by kernel_rfl) ?_
  first | simp only [updS] | simp only [updL, Nat.reduceAdd]
  generalize x % (2 * top) = k at *
  repeat (first | refine S0 ?_ | refine S1 ?_ | refine S2 ?_ | refine S4 ?_ | refine S5 ?_ | refine S6 ?_ | refine S7 ?_ | refine S8 ?_ | refine S9 ?_ | refine S10 ?_ | refine S11 ?_ | refine S13 ?_ | refine S15 ?_ | refine S16 ?_ | refine S19 ?_ | refine S20 ?_ | refine S21 ?_ | refine S22 ?_ | refine S23 ?_ | refine S25 ?_ | refine S26 ?_ | refine S33 ?_ | refine S35 ?_ | refine S49 ?_ | refine S51 ?_ | refine S55 ?_ | refine S60 ?_ | refine S63 ?_ | refine S76 ?_)
  refine Scall (args := [pint x, pint (2 * top)]) hk ?_
  by_cases hc : k < top
  · rw [if_pos hc]
    repeat (first | refine S0 ?_ | refine S1 ?_ | refine S2 ?_ | refine S4 ?_ | refine S5 ?_ | refine S6 ?_ | refine S7 ?_ | refine S8 ?_ | refine S9 ?_ | refine S10 ?_ | refine S11 ?_ | refine S13 ?_ | refine S15 ?_ | refine S16 ?_ | refine S19 ?_ | refine S20 ?_ | refine S21 ?_ | refine S22 ?_ | refine S23 ?_ | refine S25 ?_ | refine S26 ?_ | refine S33 ?_ | refine S35 ?_ | refine S49 ?_ | refine S51 ?_ | refine S55 ?_ | refine S60 ?_ | refine S63 ?_ | refine S76 ?_)
    exact ⟨.inr rfl, .cl rfl⟩
  · rw [if_neg hc]
    repeat (first | refine S0 ?_ | refine S1 ?_ | refine S2 ?_ | refine S4 ?_ | refine S5 ?_ | refine S6 ?_ | refine S7 ?_ | refine S8 ?_ | refine S9 ?_ | refine S10 ?_ | refine S11 ?_ | refine S13 ?_ | refine S15 ?_ | refine S16 ?_ | refine S19 ?_ | refine S20 ?_ | refine S21 ?_ | refine S22 ?_ | refine S23 ?_ | refine S25 ?_ | refine S26 ?_ | refine S33 ?_ | refine S35 ?_ | refine S49 ?_ | refine S51 ?_ | refine S55 ?_ | refine S60 ?_ | refine S63 ?_ | refine S76 ?_)
    exact ⟨.inr rfl, .cl rfl⟩
set_option maxHeartbeats 2000000 in
set_option maxRecDepth 100000 in
theorem word_s (top : Int) (raw : List Int) (most : Nat) (ht : 1 ≤ top ∧ top ≤ 100) (hm : most ≤ 1000) : SC Try.prog 17 [pint top, pli raw, pint most] (pli (mkW top raw most)) := by
  refine SC.len (callable Try.func17 rfl rfl) (fun hlen => ?_)
  have hla : raw.length ≤ 9223372036854775807 := hlen (pli raw) (by simp)
  clear hlen
  have hmin : (raw.take most).length = min most raw.length := List.length_take
  refine SC.go {} tok mixed Try.func17 rfl rfl Try.ntmps17 rfl rfl (by kernel_rfl) ?_
  first | simp only [updS] | simp only [updL, Nat.reduceAdd]
  have hif : (if (most : Int) < (raw.length : Int) then (most : Int) else (raw.length : Int)) = ((min most raw.length : Nat) : Int) := by split <;> omega
  repeat (first | refine S0 ?_ | refine S1 ?_ | refine S2 ?_ | refine S4 ?_ | refine S5 ?_ | refine S6 ?_ | refine S7 ?_ | refine S8 ?_ | refine S9 ?_ | refine S10 ?_ | refine S11 ?_ | refine S13 ?_ | refine S15 ?_ | refine S16 ?_ | refine S19 ?_ | refine S20 ?_ | refine S21 ?_ | refine S22 ?_ | refine S23 ?_ | refine S25 ?_ | refine S26 ?_ | refine S33 ?_ | refine S35 ?_ | refine S49 ?_ | refine S51 ?_ | refine S55 ?_ | refine S60 ?_ | refine S63 ?_ | refine S76 ?_)
  have htk : raw.take (min most raw.length) = raw.take most := List.take_eq_take_iff.2 (by omega)
  rw [hif, Int.toNat_natCast, htk]
  unfold mkW
  generalize raw.take most = ws at *
  have hwl : ws.length ≤ 1000 := by omega
  refine CW.own 7 1 rfl ?_
  refine CW.loopS (fun i : Nat × Nat => i.1 ≤ ws.length ∧ i.2 % 2 = 0) (fun i => [(0, pint top), (7, .ref i.2 0 1 i.1), (15, pli ws), (16, pint ws.length), (17, pint i.1)]) (fun i hp => hp.blk i.2 = some (ints ((ws.take i.1).map (mkL top)))) (fun i => ws.length - i.1) (0, 0) ⟨⟨Nat.zero_le _, rfl⟩, SLx, (by (try dsimp only); repeat' (first | exact HBx | exact SBx | refine And.intro ?_ ?_))⟩ ?_
  rintro ⟨k, T⟩ t hp ⟨hk, hT⟩ B
  simp only at hk hT B
  first | simp only [updS] | simp only [updL, Nat.reduceAdd]
  by_cases hk2 : k < ws.length
  · have hl := letter_t (ws.getD k 0) top ht
    have e : (ws.take k).map (mkL top) ++ [mkL top (ws.getD k 0)] = (ws.take (k + 1)).map (mkL top) := by
      rw [List.take_add_one, List.map_append, List.getElem?_eq_getElem hk2]; simp [List.getD, hk2]
    have hzl : ((ws.take k).map (mkL top)).length = k := by simp; omega
    generalize (ws.take k).map (mkL top) = zs at *
    repeat (first | refine S0 ?_ | refine S1 ?_ | refine S2 ?_ | refine S4 ?_ | refine S5 ?_ | refine S6 ?_ | refine S7 ?_ | refine S8 ?_ | refine S9 ?_ | refine S10 ?_ | refine S11 ?_ | refine S13 ?_ | refine S15 ?_ | refine S16 ?_ | refine S19 ?_ | refine S20 ?_ | refine S21 ?_ | refine S22 ?_ | refine S23 ?_ | refine S25 ?_ | refine S26 ?_ | refine S33 ?_ | refine S35 ?_ | refine S49 ?_ | refine S51 ?_ | refine S55 ?_ | refine S60 ?_ | refine S63 ?_ | refine S76 ?_)
    refine Scall (args := [pint (ws.getD k 0), pint top]) hl ?_
    repeat (first | refine S0 ?_ | refine S1 ?_ | refine S2 ?_ | refine S4 ?_ | refine S5 ?_ | refine S6 ?_ | refine S7 ?_ | refine S8 ?_ | refine S9 ?_ | refine S10 ?_ | refine S11 ?_ | refine S13 ?_ | refine S15 ?_ | refine S16 ?_ | refine S19 ?_ | refine S20 ?_ | refine S21 ?_ | refine S22 ?_ | refine S23 ?_ | refine S25 ?_ | refine S26 ?_ | refine S33 ?_ | refine S35 ?_ | refine S49 ?_ | refine S51 ?_ | refine S55 ?_ | refine S60 ?_ | refine S63 ?_ | refine S76 ?_)
    rw [e]
    exact ⟨(k + 1, _), ⟨hk2, HP.tok_even _⟩, SLx, (by (try dsimp only); repeat' (first | exact HBx | exact SBx | refine And.intro ?_ ?_)), by simp only; omega⟩
  · obtain rfl : k = ws.length := by omega
    rw [List.take_length] at B
    repeat (first | refine S0 ?_ | refine S1 ?_ | refine S2 ?_ | refine S4 ?_ | refine S5 ?_ | refine S6 ?_ | refine S7 ?_ | refine S8 ?_ | refine S9 ?_ | refine S10 ?_ | refine S11 ?_ | refine S13 ?_ | refine S15 ?_ | refine S16 ?_ | refine S19 ?_ | refine S20 ?_ | refine S21 ?_ | refine S22 ?_ | refine S23 ?_ | refine S25 ?_ | refine S26 ?_ | refine S33 ?_ | refine S35 ?_ | refine S49 ?_ | refine S51 ?_ | refine S55 ?_ | refine S60 ?_ | refine S63 ?_ | refine S76 ?_)
    exact ⟨.inr rfl, Fz.refI HBx (by first | (simp; done) | (simp; omega)) (by first | rfl | (simp; done))⟩
end Go.Proofs.Ytenoiklocdoemaa
