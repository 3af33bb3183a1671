/- timbref1.Circles. No condition of its own. -/
import Derived.Test.YtpmdhkiolgpiaaaGMatchingProductsBK
import Derived.Test.YtpmdhkiolgpiaaaGMatchingProductsBL
import Derived.Test.YtpmdhkiolgpiaaaGMatchingProductsBM
set_option linter.unusedVariables false
set_option linter.unusedSimpArgs false
namespace Go.Proofs.Ytpmdhkiolgpiaaa
open Go.RowKit

def pCk (n : Nat) (d : Nat → Nat) (k : Nat) : List (Nat × Nat) := (List.range k).flatMap (fun i => [(i, d i), (i, oppN n i)])
theorem pCk_succ (n : Nat) (d : Nat → Nat) (k : Nat) : joinA id (pCk n d (k + 1)) = joinR (joinR (joinA id (pCk n d k)) k (d k)) k (oppN n k) := by
  have : pCk n d (k + 1) = (pCk n d k ++ [(k, d k)]) ++ [(k, oppN n k)] := by
    unfold pCk
    rw [List.range_succ, List.flatMap_append]
    simp
  rw [this, joinA_snoc, joinA_snoc]
theorem uf_self {js : List Int} {N : Nat} {r : Nat → Nat} (H : Uf js N r) {x : Nat} (hx : x < N) : js.getD x 0 = (x : Int) ↔ r x = x := by
  constructor
  · intro h
    obtain ⟨_, k, hk⟩ := H.rt x hx
    exact hk.uniq (.root h)
  · intro h
    have := H.root_fix hx
    rwa [h] at this
set_option maxHeartbeats 16000000 in
set_option maxRecDepth 100000 in
theorem circles_s {n : Nat} {d : Nat → Nat} (hn : 1 ≤ n ∧ n ≤ 9) (hd : Mt n d) : SC Try.prog 9 [pint n, pli (tabN (2 * n) d)] (pint (sN (fun x => ind (joinA id (prsC n d) x = x)) (2 * n) : Nat)) := by
  have kp := points_o (2 * n) (by omega)
  have ho := opp_mt n
  refine SC.go {} tok mixed Try.func9 rfl rfl Try.ntmps9 rfl rfl (by kernel_rfl) ?_
  have l1 : (tabN (2 * n) d).length = 2 * n := tab_len _ _
  first | simp only [updS] | simp only [updL, Nat.reduceAdd]
  repeat (first | refine S0 ?_ | refine S1 ?_ | refine S2 ?_ | refine S4 ?_ | refine S5 ?_ | refine S6 ?_ | refine S7 ?_ | refine S8 ?_ | refine S10 ?_ | refine S11 ?_ | refine S13 ?_ | refine S15 ?_ | refine S16 ?_ | refine S19 ?_ | refine S20 ?_ | refine S21 ?_ | refine S22 ?_ | refine S23 ?_ | refine S24 ?_ | refine S25 ?_ | refine S26 ?_ | refine S27 ?_ | refine S28 ?_ | refine S46 ?_ | refine S51 ?_ | refine S53 ?_)
  rw [show 2 * (n : Int) = ((2 * n : Nat) : Int) by omega]
  refine Scallo (args := [pint (2 * n : Nat)]) kp ?_
  repeat (first | refine S0 ?_ | refine S1 ?_ | refine S2 ?_ | refine S4 ?_ | refine S5 ?_ | refine S6 ?_ | refine S7 ?_ | refine S8 ?_ | refine S10 ?_ | refine S11 ?_ | refine S13 ?_ | refine S15 ?_ | refine S16 ?_ | refine S19 ?_ | refine S20 ?_ | refine S21 ?_ | refine S22 ?_ | refine S23 ?_ | refine S24 ?_ | refine S25 ?_ | refine S26 ?_ | refine S27 ?_ | refine S28 ?_ | refine S46 ?_ | refine S51 ?_ | refine S53 ?_)
  refine CW.loopS (fun i : Nat × List Int => i.1 ≤ 2 * n ∧ Uf i.2 (2 * n) (joinA id (pCk n d i.1))) (fun i => [(0, pint n), (5, .ref 0 0 1 (2 * n)), (13, pli (tabN (2 * n) d)), (14, pint (tabN (2 * n) d).length), (15, pint i.1)])
    (fun i hp => hp.blk 0 = some (ints i.2) ∧ 1 ≤ hp.next) (fun i => 2 * n - i.1) (0, tabN (2 * n) id) ⟨⟨Nat.zero_le _, uf_start (2 * n)⟩, SLx, HBx, (by first | omega | (simp only [HP.tokF, HP.tokT, HP.next_add, HP.next_set, HP.next_kill, HP.next_H0, HP.next_addS, HP.next_setS, HP.next_killS, HP.next_put, HP.next_bump, HP.next_putS]; omega))⟩ ?_
  rintro ⟨i, js⟩ t hp ⟨hi, hU⟩ ⟨hB0, hnx⟩
  simp only at hi hU hB0
  first | simp only [updS] | simp only [updL, Nat.reduceAdd]
  by_cases hi2 : i < 2 * n
  · have hfi : (tabN (2 * n) d).getD i 0 = (d i : Int) := tabN_get hi2
    have h1 := hd.lt i hi2
    have h2 := ho.lt i hi2
    have hj := join_e hU (by omega) hi2 h1 hB0
    repeat (first | refine S0 ?_ | refine S1 ?_ | refine S2 ?_ | refine S4 ?_ | refine S5 ?_ | refine S6 ?_ | refine S7 ?_ | refine S8 ?_ | refine S10 ?_ | refine S11 ?_ | refine S13 ?_ | refine S15 ?_ | refine S16 ?_ | refine S19 ?_ | refine S20 ?_ | refine S21 ?_ | refine S22 ?_ | refine S23 ?_ | refine S24 ?_ | refine S25 ?_ | refine S26 ?_ | refine S27 ?_ | refine S28 ?_ | refine S46 ?_ | refine S51 ?_ | refine S53 ?_)
    rw [hfi]
    refine Scalle (args := [.ref 0 0 1 (2 * n), pint i, pint (d i)]) hj ?_
    rintro v X ⟨hb2, hF⟩
    have hU2 := hU.join hi2 h1
    have hj2 := join_e hU2 (by omega) hi2 h2 hb2
    have hnx' := hF.next
    have em : ((i : Int) + n) % (2 * n) = (oppN n i : Int) := by
      unfold oppN
      by_cases c : i < n
      · rw [if_pos c, Int.emod_eq_of_lt (by omega) (by omega)]; omega
      · rw [if_neg c]
        have : ((i : Int) + n) = ((i : Int) - n) + 2 * n := by omega
        rw [this, Int.add_emod_right, Int.emod_eq_of_lt (by omega) (by omega)]; omega
    repeat (first | refine S0 ?_ | refine S1 ?_ | refine S2 ?_ | refine S4 ?_ | refine S5 ?_ | refine S6 ?_ | refine S7 ?_ | refine S8 ?_ | refine S10 ?_ | refine S11 ?_ | refine S13 ?_ | refine S15 ?_ | refine S16 ?_ | refine S19 ?_ | refine S20 ?_ | refine S21 ?_ | refine S22 ?_ | refine S23 ?_ | refine S24 ?_ | refine S25 ?_ | refine S26 ?_ | refine S27 ?_ | refine S28 ?_ | refine S46 ?_ | refine S51 ?_ | refine S53 ?_)
    rw [em]
    refine Scalle (args := [.ref 0 0 1 (2 * n), pint i, pint (oppN n i)]) hj2 ?_
    rintro v2 X2 ⟨hb3, hF2⟩
    have hU3 := hU2.join hi2 h2
    have hnx2 := hF2.next
    repeat (first | refine S0 ?_ | refine S1 ?_ | refine S2 ?_ | refine S4 ?_ | refine S5 ?_ | refine S6 ?_ | refine S7 ?_ | refine S8 ?_ | refine S10 ?_ | refine S11 ?_ | refine S13 ?_ | refine S15 ?_ | refine S16 ?_ | refine S19 ?_ | refine S20 ?_ | refine S21 ?_ | refine S22 ?_ | refine S23 ?_ | refine S24 ?_ | refine S25 ?_ | refine S26 ?_ | refine S27 ?_ | refine S28 ?_ | refine S46 ?_ | refine S51 ?_ | refine S53 ?_)
    exact ⟨(i + 1, _), ⟨hi2, by simp only; rw [pCk_succ]; exact hU3⟩, SLx, ⟨hb3, (by first | omega | (simp only [HP.tokF, HP.tokT, HP.next_add, HP.next_set, HP.next_kill, HP.next_H0, HP.next_addS, HP.next_setS, HP.next_killS, HP.next_put, HP.next_bump, HP.next_putS]; omega))⟩, by simp only; omega⟩
  · obtain rfl : i = 2 * n := by omega
    rw [show pCk n d (2 * n) = prsC n d from rfl] at hU
    generalize joinA id (prsC n d) = r at *
    have hjl := hU.len
    repeat (first | refine S0 ?_ | refine S1 ?_ | refine S2 ?_ | refine S4 ?_ | refine S5 ?_ | refine S6 ?_ | refine S7 ?_ | refine S8 ?_ | refine S10 ?_ | refine S11 ?_ | refine S13 ?_ | refine S15 ?_ | refine S16 ?_ | refine S19 ?_ | refine S20 ?_ | refine S21 ?_ | refine S22 ?_ | refine S23 ?_ | refine S24 ?_ | refine S25 ?_ | refine S26 ?_ | refine S27 ?_ | refine S28 ?_ | refine S46 ?_ | refine S51 ?_ | refine S53 ?_)
    refine CW.loopS (fun k : Nat => k ≤ 2 * n ∧ sN (fun x => ind (r x = x)) k ≤ k) (fun k => [(5, .ref 0 0 1 (2 * n)), (35, pint (2 * n : Nat)), (36, pint k), (8, pint (sN (fun x => ind (r x = x)) k : Nat))]) (fun k hp => hp.blk 0 = some (ints js)) (fun k => 2 * n - k) 0 ⟨⟨Nat.zero_le _, Nat.le_refl _⟩, SLx, hB0⟩ ?_
    rintro k t hp ⟨hk, hs⟩ hB0
    first | simp only [updS] | simp only [updL, Nat.reduceAdd]
    by_cases hk2 : k < 2 * n
    · have hsf := uf_self hU hk2
      have hsu : sN (fun x => ind (r x = x)) (k + 1) = sN (fun x => ind (r x = x)) k + ind (r k = k) := rfl
      by_cases c : r k = k
      · have h1 := hsf.2 c
        have hi1 : ind (r k = k) = 1 := ind_pos c
        repeat (first | refine S0 ?_ | refine S1 ?_ | refine S2 ?_ | refine S4 ?_ | refine S5 ?_ | refine S6 ?_ | refine S7 ?_ | refine S8 ?_ | refine S10 ?_ | refine S11 ?_ | refine S13 ?_ | refine S15 ?_ | refine S16 ?_ | refine S19 ?_ | refine S20 ?_ | refine S21 ?_ | refine S22 ?_ | refine S23 ?_ | refine S24 ?_ | refine S25 ?_ | refine S26 ?_ | refine S27 ?_ | refine S28 ?_ | refine S46 ?_ | refine S51 ?_ | refine S53 ?_)
        exact ⟨k + 1, ⟨by omega, by omega⟩, by rw [hsu, hi1]; exact SLx, hB0, by omega⟩
      · have h1 : ¬ js.getD k 0 = (k : Int) := fun h => c (hsf.1 h)
        have hi1 : ind (r k = k) = 0 := ind_neg c
        repeat (first | refine S0 ?_ | refine S1 ?_ | refine S2 ?_ | refine S4 ?_ | refine S5 ?_ | refine S6 ?_ | refine S7 ?_ | refine S8 ?_ | refine S10 ?_ | refine S11 ?_ | refine S13 ?_ | refine S15 ?_ | refine S16 ?_ | refine S19 ?_ | refine S20 ?_ | refine S21 ?_ | refine S22 ?_ | refine S23 ?_ | refine S24 ?_ | refine S25 ?_ | refine S26 ?_ | refine S27 ?_ | refine S28 ?_ | refine S46 ?_ | refine S51 ?_ | refine S53 ?_)
        exact ⟨k + 1, ⟨by omega, by omega⟩, by rw [hsu, hi1]; exact SLx, hB0, by omega⟩
    · obtain rfl : k = 2 * n := by omega
      repeat (first | refine S0 ?_ | refine S1 ?_ | refine S2 ?_ | refine S4 ?_ | refine S5 ?_ | refine S6 ?_ | refine S7 ?_ | refine S8 ?_ | refine S10 ?_ | refine S11 ?_ | refine S13 ?_ | refine S15 ?_ | refine S16 ?_ | refine S19 ?_ | refine S20 ?_ | refine S21 ?_ | refine S22 ?_ | refine S23 ?_ | refine S24 ?_ | refine S25 ?_ | refine S26 ?_ | refine S27 ?_ | refine S28 ?_ | refine S46 ?_ | refine S51 ?_ | refine S53 ?_)
      exact ⟨.inr rfl, .cl rfl⟩
end Go.Proofs.Ytpmdhkiolgpiaaa
