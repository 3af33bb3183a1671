/- The law LinkParts. No condition of its own. -/
import Derived.Test.YtgjfpmjllpgadaaGLinkPartsBW
import Derived.Test.YtgjfpmjllpgadaaGLinkPartsBX
set_option linter.unusedVariables false
set_option linter.unusedSimpArgs false
namespace Go.Proofs.Ytgjfpmjllpgadaa
open Go.RowKit

theorem lnk11 : (List.range (cmpK (eAt [1, 1] 2) 2 2).length).map (fun p => rowF (cmpK (eAt [1, 1] 2) 2 2).length (lnk (ofN (eAt [1, 1] 2) 2) [1, 1] p)) = [[0, 1], [1, 0]] := by
  have hf : fstK (nam (eAt [1, 1] 2) 2) 2 = [0, 1] := by decide
  have hl : (cmpK (eAt [1, 1] 2) 2 2).length = 2 := by rw [cmp_len, hf]; rfl
  have h0 : ofN (eAt [1, 1] 2) 2 0 = 0 := ((ofN_spec (f := eAt [1, 1] 2) (n := 2) (x := 0) (by decide)).2.2 0 (by rw [hf]; decide) (by rw [hf]; rfl)).symm
  have h1 : ofN (eAt [1, 1] 2) 2 1 = 1 := ((ofN_spec (f := eAt [1, 1] 2) (n := 2) (x := 1) (by decide)).2.2 1 (by rw [hf]; decide) (by rw [hf]; rfl)).symm
  rw [hl]
  generalize ofN (eAt [1, 1] 2) 2 = of at *
  have a0 : crA of [1, 1] 0 = 0 := h0
  have b0 : crB of [1, 1] 0 = 1 := h1
  have a1 : crA of [1, 1] 1 = 1 := h1
  have b1 : crB of [1, 1] 1 = 0 := h0
  have e : ∀ p q, crS of [1, 1] 2 p q = (0 + (if (p = 0 ∧ q = 1) ∨ (p = 1 ∧ q = 0) then 1 else 0)) + (if (p = 1 ∧ q = 0) ∨ (p = 0 ∧ q = 1) then 1 else 0) := fun p q => by
    show (0 + _) + _ = _
    rw [a0, b0, a1, b1]; rfl
  have g : ∀ p, rowF 2 (lnk of [1, 1] p) = rowF 2 (fun q => if p = q then (0 + (if (p = 0 ∧ q = 1) ∨ (p = 1 ∧ q = 0) then 1 else 0)) + (if (p = 1 ∧ q = 0) ∨ (p = 0 ∧ q = 1) then (1 : Int) else 0) else ((0 + (if (p = 0 ∧ q = 1) ∨ (p = 1 ∧ q = 0) then 1 else 0)) + (if (p = 1 ∧ q = 0) ∨ (p = 0 ∧ q = 1) then (1 : Int) else 0)).tdiv 2) := fun p => rowF_ext (fun q _ => by
    unfold lnk
    rw [show ([1, 1] : List Int).length = 2 from rfl, e])
  rw [List.map_congr_left (fun p _ => g p)]
  decide
theorem plct_LF (ls : List (List Int)) : plct ls = .lst true 1 ls.length (ls.map (LF true)) := rfl
theorem plls_LF (ls : List (List Int)) : plls ls = .lst false 1 ls.length (ls.map (LF false)) := rfl
set_option maxHeartbeats 32000000 in
set_option maxRecDepth 100000 in
theorem linkParts_s (n : Int) (w : List Int) : SC Try.prog 8 [pint n, pli w] (.sc (.bool true)) := by
  have kf := bfault_s n w
  have hw11 : Wd 2 [1, 1] := ⟨by decide, by decide, fun k hk => by
    have : k = 0 ∨ k = 1 := by simp at hk; omega
    rcases this with rfl | rfl <;> decide⟩
  have k1 := lnums_ok (N := 2) (w := [1, 1]) (by decide) hw11 (by decide)
  rw [show ([1, 1] : List Int).length = 2 from rfl, lnk11] at k1
  have k1' : SC Try.prog 45 [pint 2, plt [1, 1]] (.tup [plls [[0, 1], [1, 0]], pint 0]) := SC.weak k1 rfl
  have kl := lists_g (b1 := false) (b2 := true) (c1 := false) (c2 := true) (a := [[0, 1], [1, 0]]) (b := [[0, 1], [1, 0]]) (by decide) (by decide)
  rw [decide_eq_true rfl] at kl
  by_cases h0 : bF n w = 0
  · rw [h0] at kf
    obtain ⟨N, rfl, hN, hw⟩ := Wd.of h0
    have hN6 := hw.n9
    have ka := lcomps_ok hN hw h0
    have kb := lnums_ok hN hw h0
    have kc := isknot_ok hN hw h0
    have kp := parts_s hN hw
    have kd := linked_s hN hw
    rw [show parK (nam (eAt w w.length) N) N = cmpK (eAt w w.length) N N from rfl] at kp
    have hln := cmpK_len (eAt w w.length) N N
    have q1 := lists_g (b1 := true) (b2 := false) (c1 := true) (c2 := false) (a := cmpK (eAt w w.length) N N) (b := cmpK (eAt w w.length) N N) (by omega) (by omega)
    rw [decide_eq_true rfl, ← plct_LF, ← plls_LF] at q1
    have q2 := lists_g (b1 := false) (b2 := false) (c1 := false) (c2 := false) (a := (List.range (cmpK (eAt w w.length) N N).length).map fun p => rowF (cmpK (eAt w w.length) N N).length (lnk (ofN (eAt w w.length) N) w p)) (b := (List.range (cmpK (eAt w w.length) N N).length).map fun p => rowF (cmpK (eAt w w.length) N N).length (lnk (ofN (eAt w w.length) N) w p)) (by simp; omega) (by simp; omega)
    rw [decide_eq_true rfl, ← plls_LF] at q2
    have hcl := plct_cl (cmpK (eAt w w.length) N N)
    have hpc := plls_cl (cmpK (eAt w w.length) N N)
    generalize ((List.range (cmpK (eAt w w.length) N N).length).map fun p => rowF (cmpK (eAt w w.length) N N).length (lnk (ofN (eAt w w.length) N) w p)) = M at *
    generalize cmpK (eAt w w.length) N N = ms at *
    have hM : (plls M).cl = true := plls_cl _
    obtain ⟨PM, hPM⟩ : ∃ PM, PM = plls M := ⟨_, rfl⟩
    rw [← hPM] at kb kd q2 hM
    refine SC.go {} tok mixed Try.func8 rfl rfl Try.ntmps8 rfl rfl (by kernel_rfl) ?_
    first | simp only [updS] | simp only [updL, Nat.reduceAdd]
    repeat (first | refine S0 ?_ | refine S1 ?_ | refine S2 ?_ | refine S5 ?_ | refine S7 ?_ | refine S8 ?_ | refine S9 ?_ | refine S15 ?_ | refine S16 ?_ | refine S19 ?_ | refine S20 ?_ | refine S22 ?_ | refine S23 ?_ | refine S28 ?_ | refine S29 ?_ | refine S34 ?_ | refine S36 ?_ | refine S37 ?_ | refine S40 ?_ | refine S41 ?_ | refine S49 ?_ | refine S77 ?_)
    refine Scall (args := [pint N, pli w]) ka ?_
    repeat (first | refine S0 ?_ | refine S1 ?_ | refine S2 ?_ | refine S5 ?_ | refine S7 ?_ | refine S8 ?_ | refine S9 ?_ | refine S15 ?_ | refine S16 ?_ | refine S19 ?_ | refine S20 ?_ | refine S22 ?_ | refine S23 ?_ | refine S28 ?_ | refine S29 ?_ | refine S34 ?_ | refine S36 ?_ | refine S37 ?_ | refine S40 ?_ | refine S41 ?_ | refine S49 ?_ | refine S77 ?_)
    refine Scall (args := [pint N, pli w]) kb ?_
    repeat (first | refine S0 ?_ | refine S1 ?_ | refine S2 ?_ | refine S5 ?_ | refine S7 ?_ | refine S8 ?_ | refine S9 ?_ | refine S15 ?_ | refine S16 ?_ | refine S19 ?_ | refine S20 ?_ | refine S22 ?_ | refine S23 ?_ | refine S28 ?_ | refine S29 ?_ | refine S34 ?_ | refine S36 ?_ | refine S37 ?_ | refine S40 ?_ | refine S41 ?_ | refine S49 ?_ | refine S77 ?_)
    refine Scall (args := [pint N, pli w]) kc ?_
    repeat (first | refine S0 ?_ | refine S1 ?_ | refine S2 ?_ | refine S5 ?_ | refine S7 ?_ | refine S8 ?_ | refine S9 ?_ | refine S15 ?_ | refine S16 ?_ | refine S19 ?_ | refine S20 ?_ | refine S22 ?_ | refine S23 ?_ | refine S28 ?_ | refine S29 ?_ | refine S34 ?_ | refine S36 ?_ | refine S37 ?_ | refine S40 ?_ | refine S41 ?_ | refine S49 ?_ | refine S77 ?_)
    refine Scall (args := [pint 2, plt [1, 1]]) k1' ?_
    repeat (first | refine S0 ?_ | refine S1 ?_ | refine S2 ?_ | refine S5 ?_ | refine S7 ?_ | refine S8 ?_ | refine S9 ?_ | refine S15 ?_ | refine S16 ?_ | refine S19 ?_ | refine S20 ?_ | refine S22 ?_ | refine S23 ?_ | refine S28 ?_ | refine S29 ?_ | refine S34 ?_ | refine S36 ?_ | refine S37 ?_ | refine S40 ?_ | refine S41 ?_ | refine S49 ?_ | refine S77 ?_)
    refine Scall (args := [pint N, pli w]) kf ?_
    repeat (first | refine S0 ?_ | refine S1 ?_ | refine S2 ?_ | refine S5 ?_ | refine S7 ?_ | refine S8 ?_ | refine S9 ?_ | refine S15 ?_ | refine S16 ?_ | refine S19 ?_ | refine S20 ?_ | refine S22 ?_ | refine S23 ?_ | refine S28 ?_ | refine S29 ?_ | refine S34 ?_ | refine S36 ?_ | refine S37 ?_ | refine S40 ?_ | refine S41 ?_ | refine S49 ?_ | refine S77 ?_)
    refine Scall (args := [plls [[0, 1], [1, 0]], .lst true 1 2 ([[0, 1], [1, 0]].map (LF true))]) kl ?_
    repeat (first | refine S0 ?_ | refine S1 ?_ | refine S2 ?_ | refine S5 ?_ | refine S7 ?_ | refine S8 ?_ | refine S9 ?_ | refine S15 ?_ | refine S16 ?_ | refine S19 ?_ | refine S20 ?_ | refine S22 ?_ | refine S23 ?_ | refine S28 ?_ | refine S29 ?_ | refine S34 ?_ | refine S36 ?_ | refine S37 ?_ | refine S40 ?_ | refine S41 ?_ | refine S49 ?_ | refine S77 ?_)
    refine Scall (args := [pint N, pli w]) kp ?_
    repeat (first | refine S0 ?_ | refine S1 ?_ | refine S2 ?_ | refine S5 ?_ | refine S7 ?_ | refine S8 ?_ | refine S9 ?_ | refine S15 ?_ | refine S16 ?_ | refine S19 ?_ | refine S20 ?_ | refine S22 ?_ | refine S23 ?_ | refine S28 ?_ | refine S29 ?_ | refine S34 ?_ | refine S36 ?_ | refine S37 ?_ | refine S40 ?_ | refine S41 ?_ | refine S49 ?_ | refine S77 ?_)
    refine Scall (args := [plct ms, plls ms]) q1 ?_ (hc := by simp only [PV.cl.clL, hcl, hpc, Bool.and_self])
    repeat (first | refine S0 ?_ | refine S1 ?_ | refine S2 ?_ | refine S5 ?_ | refine S7 ?_ | refine S8 ?_ | refine S9 ?_ | refine S15 ?_ | refine S16 ?_ | refine S19 ?_ | refine S20 ?_ | refine S22 ?_ | refine S23 ?_ | refine S28 ?_ | refine S29 ?_ | refine S34 ?_ | refine S36 ?_ | refine S37 ?_ | refine S40 ?_ | refine S41 ?_ | refine S49 ?_ | refine S77 ?_)
    refine Scall (args := [pint N, pli w]) kd ?_
    repeat (first | refine S0 ?_ | refine S1 ?_ | refine S2 ?_ | refine S5 ?_ | refine S7 ?_ | refine S8 ?_ | refine S9 ?_ | refine S15 ?_ | refine S16 ?_ | refine S19 ?_ | refine S20 ?_ | refine S22 ?_ | refine S23 ?_ | refine S28 ?_ | refine S29 ?_ | refine S34 ?_ | refine S36 ?_ | refine S37 ?_ | refine S40 ?_ | refine S41 ?_ | refine S49 ?_ | refine S77 ?_)
    refine Scall (args := [PM, PM]) q2 ?_ (hc := by simp only [PV.cl.clL, hM, Bool.and_self])
    repeat (first | refine S0 ?_ | refine S1 ?_ | refine S2 ?_ | refine S5 ?_ | refine S7 ?_ | refine S8 ?_ | refine S9 ?_ | refine S15 ?_ | refine S16 ?_ | refine S19 ?_ | refine S20 ?_ | refine S22 ?_ | refine S23 ?_ | refine S28 ?_ | refine S29 ?_ | refine S34 ?_ | refine S36 ?_ | refine S37 ?_ | refine S40 ?_ | refine S41 ?_ | refine S49 ?_ | refine S77 ?_)
    rw [show (decide (ms.length = 1) == decide ((ms.length : Int) = 1)) = true from beq_iff_eq.2 (decide_eq_decide.2 ⟨fun h => by omega, fun h => by omega⟩)]
    exact ⟨.inr rfl, .cl rfl⟩
  · have ka := lcomps_bad h0
    have kb := lnums_bad h0
    have kc := isknot_bad h0
    generalize bF n w = e at *
    refine SC.go {} tok mixed Try.func8 rfl rfl Try.ntmps8 rfl rfl (by kernel_rfl) ?_
    first | simp only [updS] | simp only [updL, Nat.reduceAdd]
    repeat (first | refine S0 ?_ | refine S1 ?_ | refine S2 ?_ | refine S5 ?_ | refine S7 ?_ | refine S8 ?_ | refine S9 ?_ | refine S15 ?_ | refine S16 ?_ | refine S19 ?_ | refine S20 ?_ | refine S22 ?_ | refine S23 ?_ | refine S28 ?_ | refine S29 ?_ | refine S34 ?_ | refine S36 ?_ | refine S37 ?_ | refine S40 ?_ | refine S41 ?_ | refine S49 ?_ | refine S77 ?_)
    refine Scall (args := [pint n, pli w]) ka ?_
    repeat (first | refine S0 ?_ | refine S1 ?_ | refine S2 ?_ | refine S5 ?_ | refine S7 ?_ | refine S8 ?_ | refine S9 ?_ | refine S15 ?_ | refine S16 ?_ | refine S19 ?_ | refine S20 ?_ | refine S22 ?_ | refine S23 ?_ | refine S28 ?_ | refine S29 ?_ | refine S34 ?_ | refine S36 ?_ | refine S37 ?_ | refine S40 ?_ | refine S41 ?_ | refine S49 ?_ | refine S77 ?_)
    refine Scall (args := [pint n, pli w]) kb ?_
    repeat (first | refine S0 ?_ | refine S1 ?_ | refine S2 ?_ | refine S5 ?_ | refine S7 ?_ | refine S8 ?_ | refine S9 ?_ | refine S15 ?_ | refine S16 ?_ | refine S19 ?_ | refine S20 ?_ | refine S22 ?_ | refine S23 ?_ | refine S28 ?_ | refine S29 ?_ | refine S34 ?_ | refine S36 ?_ | refine S37 ?_ | refine S40 ?_ | refine S41 ?_ | refine S49 ?_ | refine S77 ?_)
    refine Scall (args := [pint n, pli w]) kc ?_
    repeat (first | refine S0 ?_ | refine S1 ?_ | refine S2 ?_ | refine S5 ?_ | refine S7 ?_ | refine S8 ?_ | refine S9 ?_ | refine S15 ?_ | refine S16 ?_ | refine S19 ?_ | refine S20 ?_ | refine S22 ?_ | refine S23 ?_ | refine S28 ?_ | refine S29 ?_ | refine S34 ?_ | refine S36 ?_ | refine S37 ?_ | refine S40 ?_ | refine S41 ?_ | refine S49 ?_ | refine S77 ?_)
    refine Scall (args := [pint 2, plt [1, 1]]) k1' ?_
    repeat (first | refine S0 ?_ | refine S1 ?_ | refine S2 ?_ | refine S5 ?_ | refine S7 ?_ | refine S8 ?_ | refine S9 ?_ | refine S15 ?_ | refine S16 ?_ | refine S19 ?_ | refine S20 ?_ | refine S22 ?_ | refine S23 ?_ | refine S28 ?_ | refine S29 ?_ | refine S34 ?_ | refine S36 ?_ | refine S37 ?_ | refine S40 ?_ | refine S41 ?_ | refine S49 ?_ | refine S77 ?_)
    refine Scall (args := [pint n, pli w]) kf ?_
    repeat (first | refine S0 ?_ | refine S1 ?_ | refine S2 ?_ | refine S5 ?_ | refine S7 ?_ | refine S8 ?_ | refine S9 ?_ | refine S15 ?_ | refine S16 ?_ | refine S19 ?_ | refine S20 ?_ | refine S22 ?_ | refine S23 ?_ | refine S28 ?_ | refine S29 ?_ | refine S34 ?_ | refine S36 ?_ | refine S37 ?_ | refine S40 ?_ | refine S41 ?_ | refine S49 ?_ | refine S77 ?_)
    refine Scall (args := [plls [[0, 1], [1, 0]], .lst true 1 2 ([[0, 1], [1, 0]].map (LF true))]) kl ?_
    repeat (first | refine S0 ?_ | refine S1 ?_ | refine S2 ?_ | refine S5 ?_ | refine S7 ?_ | refine S8 ?_ | refine S9 ?_ | refine S15 ?_ | refine S16 ?_ | refine S19 ?_ | refine S20 ?_ | refine S22 ?_ | refine S23 ?_ | refine S28 ?_ | refine S29 ?_ | refine S34 ?_ | refine S36 ?_ | refine S37 ?_ | refine S40 ?_ | refine S41 ?_ | refine S49 ?_ | refine S77 ?_)
    exact ⟨.inr rfl, .cl rfl⟩
end Go.Proofs.Ytgjfpmjllpgadaa
