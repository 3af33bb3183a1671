/- Facts and contracts that the claim uses. No condition of its own. -/
import Derived.Test.YtdlpbpfcgjgppaaGJonesStatesBE
import Derived.Test.YtdlpbpfcgjgppaaGJonesStatesAU
import Derived.Test.YtdlpbpfcgjgppaaGJonesStatesBJ
set_option linter.unusedVariables false
set_option linter.unusedSimpArgs false
namespace Go.Proofs.Ytdlpbpfcgjgppaa
open Go.RowKit
theorem RN.split {j : List Int} {y ρ k : Nat} (h : RN j y ρ k) : (j.getD y 0 = (y : Int) ∧ y = ρ) ∨ ∃ (z k' : Nat), j.getD y 0 = (z : Int) ∧ z ≠ y ∧ RN j z ρ k' ∧ k = k' + 1 := by
  cases h with
  | root h => exact .inl ⟨h, rfl⟩
  | step h1 h2 h3 => exact .inr ⟨_, _, h1, h2, h3, rfl⟩
set_option maxHeartbeats 4000000 in
set_option maxRecDepth 100000 in
theorem at_s {js : List Int} {n : Nat} {r : Nat → Nat} (H : Uf js n r) (hn : n ≤ 1000000) {x : Nat} (hx : x < n) : SC Try.prog 59 [pli js, pint x] (pint (r x)) := by
  obtain ⟨hr, k0, hk0⟩ := H.rt x hx
  have hl := H.len
  obtain ⟨ρ, hρ⟩ : ∃ ρ, ρ = r x := ⟨_, rfl⟩
  rw [← hρ] at hk0 ⊢
  refine SC.go {} tok mixed Try.func59 rfl rfl Try.ntmps59 rfl rfl (by kernel_rfl) ?_
  first | simp only [updS] | simp only [updL, Nat.reduceAdd]
  repeat (first | refine S0 ?_ | refine S1 ?_ | refine S2 ?_ | refine S4 ?_ | refine S5 ?_ | refine S6 ?_ | refine S7 ?_ | refine S8 ?_ | refine S10 ?_ | refine S11 ?_ | refine S13 ?_ | refine S15 ?_ | refine S16 ?_ | refine S19 ?_ | refine S20 ?_ | refine S25 ?_ | refine S26 ?_ | refine S29 ?_)
  refine CW.loopS (fun i : Nat × Nat => i.1 < n ∧ RN js i.1 ρ i.2) (fun i => [(0, pli js), (1, pint i.1)]) (fun _ _ => True) (fun i => i.2) (x, k0) ⟨⟨hx, hk0⟩, SLx, trivial⟩ ?_
  rintro ⟨y, k⟩ t hp ⟨hy, hR⟩ _
  simp only at hy hR
  first | simp only [updS] | simp only [updL, Nat.reduceAdd]
  obtain ⟨z, hz1, hz2⟩ := H.inn y hy
  rcases hR.split with ⟨g1, g2⟩ | ⟨z', k', g1, g2, g3, g4⟩
  · repeat (first | refine S0 ?_ | refine S1 ?_ | refine S2 ?_ | refine S4 ?_ | refine S5 ?_ | refine S6 ?_ | refine S7 ?_ | refine S8 ?_ | refine S10 ?_ | refine S11 ?_ | refine S13 ?_ | refine S15 ?_ | refine S16 ?_ | refine S19 ?_ | refine S20 ?_ | refine S25 ?_ | refine S26 ?_ | refine S29 ?_)
    subst g2
    exact ⟨.inr rfl, .cl rfl⟩
  · have hz : js.getD y 0 ≠ (y : Int) := by omega
    repeat (first | refine S0 ?_ | refine S1 ?_ | refine S2 ?_ | refine S4 ?_ | refine S5 ?_ | refine S6 ?_ | refine S7 ?_ | refine S8 ?_ | refine S10 ?_ | refine S11 ?_ | refine S13 ?_ | refine S15 ?_ | refine S16 ?_ | refine S19 ?_ | refine S20 ?_ | refine S25 ?_ | refine S26 ?_ | refine S29 ?_)
    rw [g1]
    exact ⟨(z', k'), ⟨by simp only; omega, g3⟩, SLx, trivial, by simp only; omega⟩
set_option maxHeartbeats 4000000 in
set_option maxRecDepth 100000 in
theorem at_e {js : List Int} {n : Nat} {r : Nat → Nat} (H : Uf js n r) (hn : n ≤ 1000000) {x tk : Nat} (hx : x < n) {h : HP} (hb : h.blk tk = some (ints js)) : SChE Try.prog 59 [.ref tk 0 1 n, pint x] h (fun v h' => v = pint (r x) ∧ h'.blk tk = some (ints js) ∧ Fr [] h h') := by
  obtain ⟨hr, k0, hk0⟩ := H.rt x hx
  have hl := H.len
  obtain ⟨ρ, hρ⟩ : ∃ ρ, ρ = r x := ⟨_, rfl⟩
  rw [← hρ] at hk0 ⊢
  refine SChE.go {} tok mixed Try.func59 rfl rfl Try.ntmps59 rfl rfl (by kernel_rfl) (fun hw => ?_)
  first | simp only [updS] | simp only [updL, Nat.reduceAdd]
  have htk := hw.lt hb
  repeat (first | refine S0 ?_ | refine S1 ?_ | refine S2 ?_ | refine S4 ?_ | refine S5 ?_ | refine S6 ?_ | refine S7 ?_ | refine S8 ?_ | refine S10 ?_ | refine S11 ?_ | refine S13 ?_ | refine S15 ?_ | refine S16 ?_ | refine S19 ?_ | refine S20 ?_ | refine S27 ?_ | refine S29 ?_ | refine S46 ?_)
  refine CW.loopS (fun i : Nat × Nat => i.1 < n ∧ RN js i.1 ρ i.2) (fun i => [(0, .ref tk 0 1 n), (1, pint i.1)]) (fun _ hp => hp.blk tk = some (ints js) ∧ Fr [] h hp) (fun i => i.2) (x, k0) ⟨⟨hx, hk0⟩, SLx, hb, Fr.refl _ _⟩ ?_
  rintro ⟨y, k⟩ t hp ⟨hy, hR⟩ ⟨hB, hF⟩
  simp only at hy hR
  first | simp only [updS] | simp only [updL, Nat.reduceAdd]
  obtain ⟨z, hz1, hz2⟩ := H.inn y hy
  rcases hR.split with ⟨g1, g2⟩ | ⟨z', k', g1, g2, g3, g4⟩
  · repeat (first | refine S0 ?_ | refine S1 ?_ | refine S2 ?_ | refine S4 ?_ | refine S5 ?_ | refine S6 ?_ | refine S7 ?_ | refine S8 ?_ | refine S10 ?_ | refine S11 ?_ | refine S13 ?_ | refine S15 ?_ | refine S16 ?_ | refine S19 ?_ | refine S20 ?_ | refine S27 ?_ | refine S29 ?_ | refine S46 ?_)
    subst g2
    exact ⟨.inr rfl, _, ⟨_, rfl, rfl⟩, rfl, hB, hF⟩
  · have hz : js.getD y 0 ≠ (y : Int) := by omega
    repeat (first | refine S0 ?_ | refine S1 ?_ | refine S2 ?_ | refine S4 ?_ | refine S5 ?_ | refine S6 ?_ | refine S7 ?_ | refine S8 ?_ | refine S10 ?_ | refine S11 ?_ | refine S13 ?_ | refine S15 ?_ | refine S16 ?_ | refine S19 ?_ | refine S20 ?_ | refine S27 ?_ | refine S29 ?_ | refine S46 ?_)
    rw [g1]
    exact ⟨(z', k'), ⟨by simp only; omega, g3⟩, SLx, ⟨hB, hF⟩, by simp only; omega⟩
end Go.Proofs.Ytdlpbpfcgjgppaa

/- Facts and contracts that the claim uses. No condition of its own. -/
set_option linter.unusedVariables false
set_option linter.unusedSimpArgs false
namespace Go.Proofs.Ytdlpbpfcgjgppaa
open Go.RowKit
set_option maxHeartbeats 4000000 in
set_option maxRecDepth 100000 in
theorem join_e {js : List Int} {n : Nat} {r : Nat → Nat} (H : Uf js n r) (hn : n ≤ 1000000) {x y tk : Nat} (hx : x < n) (hy : y < n) {h : HP} (hb : h.blk tk = some (ints js)) : SChE Try.prog 57 [.ref tk 0 1 n, pint x, pint y] h (fun _ h' => h'.blk tk = some (ints (js.set (r x) (r y : Int))) ∧ Fr [tk] h h') := by
  have hrx := (H.rt x hx).1
  have hl := H.len
  refine SChE.go {} tok mixed Try.func57 rfl rfl Try.ntmps57 rfl rfl (by kernel_rfl) (fun hw => ?_)
  first | simp only [updS] | simp only [updL, Nat.reduceAdd]
  have htk := hw.lt hb
  repeat (first | refine S0 ?_ | refine S2 ?_ | refine S19 ?_ | refine S27 ?_ | refine S65 ?_)
  refine Scalle (args := [.ref tk 0 1 n, pint x]) (at_e H hn hx hb) ?_
  rintro v h1 ⟨rfl, hb1, hF1⟩
  repeat (first | refine S0 ?_ | refine S2 ?_ | refine S19 ?_ | refine S27 ?_ | refine S65 ?_)
  refine Scalle (args := [.ref tk 0 1 n, pint y]) (at_e H hn hy hb1) ?_
  rintro v h2 ⟨rfl, hb2, hF2⟩
  repeat (first | refine S0 ?_ | refine S2 ?_ | refine S19 ?_ | refine S27 ?_ | refine S65 ?_)
  have F : Fr [tk] h h2 := ((Fr.refl [tk] h).trans hF1 (fun t ht => absurd ht (by simp))).trans hF2 (fun t ht => absurd ht (by simp))
  exact ⟨.inl rfl, _, rfl, HP.set_same _ _ _, F.set _ (.inl (by simp))⟩
end Go.Proofs.Ytdlpbpfcgjgppaa

/- Facts and contracts that the claim uses. No condition of its own. -/
set_option linter.unusedVariables false
set_option linter.unusedSimpArgs false
namespace Go.Proofs.Ytdlpbpfcgjgppaa
open Go.RowKit
set_option maxHeartbeats 1000000 in
set_option maxRecDepth 100000 in
theorem rowO_o (n : Nat) (hn : n ≤ 1000) : SCo Try.prog 80 [pint n] 1 n (ints (tabN n id)) := by
  refine SCo.go {} tok mixed Try.func80 rfl rfl Try.ntmps80 rfl rfl (by kernel_rfl) ?_
  first | simp only [updS] | simp only [updL, Nat.reduceAdd]
  repeat (first | refine S0 ?_ | refine S1 ?_ | refine S2 ?_ | refine S4 ?_ | refine S5 ?_ | refine S6 ?_ | refine S7 ?_ | refine S8 ?_ | refine S10 ?_ | refine S11 ?_ | refine S13 ?_ | refine S15 ?_ | refine S16 ?_ | refine S19 ?_ | refine S20 ?_ | refine S21 ?_ | refine S22 ?_ | refine S24 ?_ | refine S27 ?_ | refine S65 ?_ | refine S71 ?_)
  refine CW.loopS (fun k : Nat => k ≤ n) (fun k => [(3, .ref 0 0 1 n), (8, pint n), (9, pint k)]) (fun k h => h.blk 0 = some (ints (fillT n k (fun i => ((id i : Nat) : Int))))) (fun k => n - k) 0 ⟨by omega, SLx, by rw [fillT_zero]; exact HBx⟩ ?_
  rintro k t h hk B
  first | simp only [updS] | simp only [updL, Nat.reduceAdd]
  have hl := fillT_len n k (fun i => ((id i : Nat) : Int))
  by_cases hk2 : k < n
  · have hs : (fillT n k (fun i => ((id i : Nat) : Int))).set k (k : Int) = fillT n (k + 1) (fun i => ((id i : Nat) : Int)) := fillT_set hk2
    repeat (first | refine S0 ?_ | refine S1 ?_ | refine S2 ?_ | refine S4 ?_ | refine S5 ?_ | refine S6 ?_ | refine S7 ?_ | refine S8 ?_ | refine S10 ?_ | refine S11 ?_ | refine S13 ?_ | refine S15 ?_ | refine S16 ?_ | refine S19 ?_ | refine S20 ?_ | refine S21 ?_ | refine S22 ?_ | refine S24 ?_ | refine S27 ?_ | refine S65 ?_ | refine S71 ?_)
    rw [hs]
    exact ⟨k + 1, by omega, SLx, (by (try dsimp only); repeat' (first | exact HBx | exact SBx | refine And.intro ?_ ?_)), by omega⟩
  · obtain rfl : k = n := by omega
    rw [fillT_tab] at B
    repeat (first | refine S0 ?_ | refine S1 ?_ | refine S2 ?_ | refine S4 ?_ | refine S5 ?_ | refine S6 ?_ | refine S7 ?_ | refine S8 ?_ | refine S10 ?_ | refine S11 ?_ | refine S13 ?_ | refine S15 ?_ | refine S16 ?_ | refine S19 ?_ | refine S20 ?_ | refine S21 ?_ | refine S22 ?_ | refine S24 ?_ | refine S27 ?_ | refine S65 ?_ | refine S71 ?_)
    have := Ow.ints (ys := tabN k id) B (tab_len _ _).symm rfl
    rw [tab_len] at this
    exact ⟨.inr rfl, this⟩
theorem points_o (n : Nat) (hn : n ≤ 1000) : SCo Try.prog 56 [pint n] 1 n (ints (tabN n id)) := by
  have k := rowO_o n hn
  refine SCo.go {} tok mixed Try.func56 rfl rfl Try.ntmps56 rfl rfl (by kernel_rfl) ?_
  first | simp only [updS] | simp only [updL, Nat.reduceAdd]
  repeat (first | refine S0 ?_ | refine S1 ?_ | refine S2 ?_ | refine S7 ?_ | refine S8 ?_ | refine S19 ?_ | refine S20 ?_)
  refine Scallo (args := [pint n]) k ?_
  repeat (first | refine S0 ?_ | refine S1 ?_ | refine S2 ?_ | refine S7 ?_ | refine S8 ?_ | refine S19 ?_ | refine S20 ?_)
  have hB : (H0.add false (ints (tabN n id))).blk 0 = some (ints (tabN n id)) := rfl
  have := Ow.ints (ys := tabN n id) hB (tab_len _ _).symm rfl
  rw [tab_len] at this
  exact ⟨.inr rfl, this⟩
end Go.Proofs.Ytdlpbpfcgjgppaa

/- Facts and contracts that the claim uses. No condition of its own. -/
set_option linter.unusedVariables false
set_option linter.unusedSimpArgs false
namespace Go.Proofs.Ytdlpbpfcgjgppaa
open Go.RowKit
def pCk (n : Nat) (d : Nat → Nat) (k : Nat) : List (Nat × Nat) := (List.range k).flatMap (fun i => [(i, d i), (i, oppN n i)])
theorem pCk_succ (n : Nat) (d : Nat → Nat) (k : Nat) : joinA id (pCk n d (k + 1)) = joinR (joinR (joinA id (pCk n d k)) k (d k)) k (oppN n k) := by
  have : pCk n d (k + 1) = (pCk n d k ++ [(k, d k)]) ++ [(k, oppN n k)] := by
    unfold pCk
    rw [List.range_succ, List.flatMap_append]
    simp
  rw [this, joinA_snoc, joinA_snoc]
theorem uf_self {js : List Int} {N : Nat} {r : Nat → Nat} (H : Uf js N r) {x : Nat} (hx : x < N) : js.getD x 0 = (x : Int) ↔ r x = x := by
  constructor
  · intro h
    obtain ⟨_, k, hk⟩ := H.rt x hx
    exact hk.uniq (.root h)
  · intro h
    have := H.root_fix hx
    rwa [h] at this
set_option maxHeartbeats 16000000 in
set_option maxRecDepth 100000 in
theorem circles_s {n : Nat} {d : Nat → Nat} (hn : 1 ≤ n ∧ n ≤ 9) (hd : Mt n d) : SC Try.prog 33 [pint n, pli (tabN (2 * n) d)] (pint (sN (fun x => ind (joinA id (prsC n d) x = x)) (2 * n) : Nat)) := by
  have kp := points_o (2 * n) (by omega)
  have ho := opp_mt n
  refine SC.go {} tok mixed Try.func33 rfl rfl Try.ntmps33 rfl rfl (by kernel_rfl) ?_
  have l1 : (tabN (2 * n) d).length = 2 * n := tab_len _ _
  first | simp only [updS] | simp only [updL, Nat.reduceAdd]
  repeat (first | refine S0 ?_ | refine S1 ?_ | refine S2 ?_ | refine S4 ?_ | refine S5 ?_ | refine S6 ?_ | refine S7 ?_ | refine S8 ?_ | refine S10 ?_ | refine S11 ?_ | refine S13 ?_ | refine S15 ?_ | refine S16 ?_ | refine S19 ?_ | refine S20 ?_ | refine S21 ?_ | refine S22 ?_ | refine S23 ?_ | refine S24 ?_ | refine S25 ?_ | refine S26 ?_ | refine S27 ?_ | refine S28 ?_ | refine S46 ?_ | refine S51 ?_ | refine S53 ?_)
  rw [show 2 * (n : Int) = ((2 * n : Nat) : Int) by omega]
  refine Scallo (args := [pint (2 * n : Nat)]) kp ?_
  repeat (first | refine S0 ?_ | refine S1 ?_ | refine S2 ?_ | refine S4 ?_ | refine S5 ?_ | refine S6 ?_ | refine S7 ?_ | refine S8 ?_ | refine S10 ?_ | refine S11 ?_ | refine S13 ?_ | refine S15 ?_ | refine S16 ?_ | refine S19 ?_ | refine S20 ?_ | refine S21 ?_ | refine S22 ?_ | refine S23 ?_ | refine S24 ?_ | refine S25 ?_ | refine S26 ?_ | refine S27 ?_ | refine S28 ?_ | refine S46 ?_ | refine S51 ?_ | refine S53 ?_)
  refine CW.loopS (fun i : Nat × List Int => i.1 ≤ 2 * n ∧ Uf i.2 (2 * n) (joinA id (pCk n d i.1))) (fun i => [(0, pint n), (5, .ref 0 0 1 (2 * n)), (13, pli (tabN (2 * n) d)), (14, pint (tabN (2 * n) d).length), (15, pint i.1)])
    (fun i hp => hp.blk 0 = some (ints i.2) ∧ 1 ≤ hp.next) (fun i => 2 * n - i.1) (0, tabN (2 * n) id) ⟨⟨Nat.zero_le _, uf_start (2 * n)⟩, SLx, HBx, (by first | omega | (simp only [HP.tokF, HP.tokT, HP.next_add, HP.next_set, HP.next_kill, HP.next_H0, HP.next_addS, HP.next_setS, HP.next_killS, HP.next_put, HP.next_bump, HP.next_putS]; omega))⟩ ?_
  rintro ⟨i, js⟩ t hp ⟨hi, hU⟩ ⟨hB0, hnx⟩
  simp only at hi hU hB0
  first | simp only [updS] | simp only [updL, Nat.reduceAdd]
  by_cases hi2 : i < 2 * n
  · have hfi : (tabN (2 * n) d).getD i 0 = (d i : Int) := tabN_get hi2
    have h1 := hd.lt i hi2
    have h2 := ho.lt i hi2
    have hj := join_e hU (by omega) hi2 h1 hB0
    repeat (first | refine S0 ?_ | refine S1 ?_ | refine S2 ?_ | refine S4 ?_ | refine S5 ?_ | refine S6 ?_ | refine S7 ?_ | refine S8 ?_ | refine S10 ?_ | refine S11 ?_ | refine S13 ?_ | refine S15 ?_ | refine S16 ?_ | refine S19 ?_ | refine S20 ?_ | refine S21 ?_ | refine S22 ?_ | refine S23 ?_ | refine S24 ?_ | refine S25 ?_ | refine S26 ?_ | refine S27 ?_ | refine S28 ?_ | refine S46 ?_ | refine S51 ?_ | refine S53 ?_)
    rw [hfi]
    refine Scalle (args := [.ref 0 0 1 (2 * n), pint i, pint (d i)]) hj ?_
    rintro v X ⟨hb2, hF⟩
    have hU2 := hU.join hi2 h1
    have hj2 := join_e hU2 (by omega) hi2 h2 hb2
    have hnx' := hF.next
    have em : ((i : Int) + n) % (2 * n) = (oppN n i : Int) := by
      unfold oppN
      by_cases c : i < n
      · rw [if_pos c, Int.emod_eq_of_lt (by omega) (by omega)]; omega
      · rw [if_neg c]
        have : ((i : Int) + n) = ((i : Int) - n) + 2 * n := by omega
        rw [this, Int.add_emod_right, Int.emod_eq_of_lt (by omega) (by omega)]; omega
    repeat (first | refine S0 ?_ | refine S1 ?_ | refine S2 ?_ | refine S4 ?_ | refine S5 ?_ | refine S6 ?_ | refine S7 ?_ | refine S8 ?_ | refine S10 ?_ | refine S11 ?_ | refine S13 ?_ | refine S15 ?_ | refine S16 ?_ | refine S19 ?_ | refine S20 ?_ | refine S21 ?_ | refine S22 ?_ | refine S23 ?_ | refine S24 ?_ | refine S25 ?_ | refine S26 ?_ | refine S27 ?_ | refine S28 ?_ | refine S46 ?_ | refine S51 ?_ | refine S53 ?_)
    rw [em]
    refine Scalle (args := [.ref 0 0 1 (2 * n), pint i, pint (oppN n i)]) hj2 ?_
    rintro v2 X2 ⟨hb3, hF2⟩
    have hU3 := hU2.join hi2 h2
    have hnx2 := hF2.next
    repeat (first | refine S0 ?_ | refine S1 ?_ | refine S2 ?_ | refine S4 ?_ | refine S5 ?_ | refine S6 ?_ | refine S7 ?_ | refine S8 ?_ | refine S10 ?_ | refine S11 ?_ | refine S13 ?_ | refine S15 ?_ | refine S16 ?_ | refine S19 ?_ | refine S20 ?_ | refine S21 ?_ | refine S22 ?_ | refine S23 ?_ | refine S24 ?_ | refine S25 ?_ | refine S26 ?_ | refine S27 ?_ | refine S28 ?_ | refine S46 ?_ | refine S51 ?_ | refine S53 ?_)
    exact ⟨(i + 1, _), ⟨hi2, by simp only; rw [pCk_succ]; exact hU3⟩, SLx, ⟨hb3, (by first | omega | (simp only [HP.tokF, HP.tokT, HP.next_add, HP.next_set, HP.next_kill, HP.next_H0, HP.next_addS, HP.next_setS, HP.next_killS, HP.next_put, HP.next_bump, HP.next_putS]; omega))⟩, by simp only; omega⟩
  · obtain rfl : i = 2 * n := by omega
    rw [show pCk n d (2 * n) = prsC n d from rfl] at hU
    generalize joinA id (prsC n d) = r at *
    have hjl := hU.len
    repeat (first | refine S0 ?_ | refine S1 ?_ | refine S2 ?_ | refine S4 ?_ | refine S5 ?_ | refine S6 ?_ | refine S7 ?_ | refine S8 ?_ | refine S10 ?_ | refine S11 ?_ | refine S13 ?_ | refine S15 ?_ | refine S16 ?_ | refine S19 ?_ | refine S20 ?_ | refine S21 ?_ | refine S22 ?_ | refine S23 ?_ | refine S24 ?_ | refine S25 ?_ | refine S26 ?_ | refine S27 ?_ | refine S28 ?_ | refine S46 ?_ | refine S51 ?_ | refine S53 ?_)
    refine CW.loopS (fun k : Nat => k ≤ 2 * n ∧ sN (fun x => ind (r x = x)) k ≤ k) (fun k => [(5, .ref 0 0 1 (2 * n)), (35, pint (2 * n : Nat)), (36, pint k), (8, pint (sN (fun x => ind (r x = x)) k : Nat))]) (fun k hp => hp.blk 0 = some (ints js)) (fun k => 2 * n - k) 0 ⟨⟨Nat.zero_le _, Nat.le_refl _⟩, SLx, hB0⟩ ?_
    rintro k t hp ⟨hk, hs⟩ hB0
    first | simp only [updS] | simp only [updL, Nat.reduceAdd]
    by_cases hk2 : k < 2 * n
    · have hsf := uf_self hU hk2
      have hsu : sN (fun x => ind (r x = x)) (k + 1) = sN (fun x => ind (r x = x)) k + ind (r k = k) := rfl
      by_cases c : r k = k
      · have h1 := hsf.2 c
        have hi1 : ind (r k = k) = 1 := ind_pos c
        repeat (first | refine S0 ?_ | refine S1 ?_ | refine S2 ?_ | refine S4 ?_ | refine S5 ?_ | refine S6 ?_ | refine S7 ?_ | refine S8 ?_ | refine S10 ?_ | refine S11 ?_ | refine S13 ?_ | refine S15 ?_ | refine S16 ?_ | refine S19 ?_ | refine S20 ?_ | refine S21 ?_ | refine S22 ?_ | refine S23 ?_ | refine S24 ?_ | refine S25 ?_ | refine S26 ?_ | refine S27 ?_ | refine S28 ?_ | refine S46 ?_ | refine S51 ?_ | refine S53 ?_)
        exact ⟨k + 1, ⟨by omega, by omega⟩, by rw [hsu, hi1]; exact SLx, hB0, by omega⟩
      · have h1 : ¬ js.getD k 0 = (k : Int) := fun h => c (hsf.1 h)
        have hi1 : ind (r k = k) = 0 := ind_neg c
        repeat (first | refine S0 ?_ | refine S1 ?_ | refine S2 ?_ | refine S4 ?_ | refine S5 ?_ | refine S6 ?_ | refine S7 ?_ | refine S8 ?_ | refine S10 ?_ | refine S11 ?_ | refine S13 ?_ | refine S15 ?_ | refine S16 ?_ | refine S19 ?_ | refine S20 ?_ | refine S21 ?_ | refine S22 ?_ | refine S23 ?_ | refine S24 ?_ | refine S25 ?_ | refine S26 ?_ | refine S27 ?_ | refine S28 ?_ | refine S46 ?_ | refine S51 ?_ | refine S53 ?_)
        exact ⟨k + 1, ⟨by omega, by omega⟩, by rw [hsu, hi1]; exact SLx, hB0, by omega⟩
    · obtain rfl : k = 2 * n := by omega
      repeat (first | refine S0 ?_ | refine S1 ?_ | refine S2 ?_ | refine S4 ?_ | refine S5 ?_ | refine S6 ?_ | refine S7 ?_ | refine S8 ?_ | refine S10 ?_ | refine S11 ?_ | refine S13 ?_ | refine S15 ?_ | refine S16 ?_ | refine S19 ?_ | refine S20 ?_ | refine S21 ?_ | refine S22 ?_ | refine S23 ?_ | refine S24 ?_ | refine S25 ?_ | refine S26 ?_ | refine S27 ?_ | refine S28 ?_ | refine S46 ?_ | refine S51 ?_ | refine S53 ?_)
      exact ⟨.inr rfl, .cl rfl⟩
end Go.Proofs.Ytdlpbpfcgjgppaa
