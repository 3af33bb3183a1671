/- link.Components, link.IsKnot; the component of a strand. No condition of its own. -/
import Derived.Test.YtgjfpmjllpgadaaGLinkPartsBQ
import Derived.Test.YtgjfpmjllpgadaaGLinkPartsBR
import Derived.Test.YtgjfpmjllpgadaaGLinkPartsBA
set_option linter.unusedVariables false
set_option linter.unusedSimpArgs false
namespace Go.Proofs.Ytgjfpmjllpgadaa
open Go.RowKit

/-- the number of the component of a strand -/
noncomputable def ofN (f : Nat → Nat) (n x : Nat) : Nat := @dite _ (x < n) (Nat.decLt x n) (fun h => Classical.choose (fstK_at (r := nam f n) h)) (fun _ => 0)
theorem ofN_spec {f : Nat → Nat} {n x : Nat} (h : x < n) : ofN f n x < (fstK (nam f n) n).length ∧ nam f n ((fstK (nam f n) n).getD (ofN f n x) 0) = nam f n x ∧ ∀ p', p' < (fstK (nam f n) n).length → nam f n ((fstK (nam f n) n).getD p' 0) = nam f n x → p' = ofN f n x := by
  unfold ofN
  rw [dif_pos h]
  exact Classical.choose_spec (fstK_at (r := nam f n) h)
theorem cmp_len (f : Nat → Nat) (n : Nat) : (cmpK f n n).length = (fstK (nam f n) n).length := by unfold cmpK; rw [List.length_map]
theorem cmp_get {f : Nat → Nat} {n k : Nat} (h : k < (cmpK f n n).length) : (cmpK f n n).getD k [] = clsK (nam f n) n ((fstK (nam f n) n).getD k 0) := by
  have h2 : k < (fstK (nam f n) n).length := by rwa [cmp_len] at h
  unfold cmpK
  simp [List.getD, h2]
theorem cmp_mem {f : Nat → Nat} {n k : Nat} (h : k < (cmpK f n n).length) {x : Int} : x ∈ (cmpK f n n).getD k [] ↔ ∃ z : Nat, x = (z : Int) ∧ z < n ∧ ofN f n z = k := by
  rw [cmp_get h, mem_clsK]
  constructor
  · rintro ⟨z, rfl, hz, e⟩
    exact ⟨z, rfl, hz, ((ofN_spec hz).2.2 k (by rwa [cmp_len] at h) e.symm).symm⟩
  · rintro ⟨z, rfl, hz, rfl⟩
    exact ⟨z, rfl, hz, (ofN_spec hz).2.1.symm⟩
theorem cmp_in {f : Nat → Nat} {n k l : Nat} (h : k < (cmpK f n n).length) (hl : l < ((cmpK f n n).getD k []).length) : ∃ z : Nat, ((cmpK f n n).getD k []).getD l 0 = (z : Int) ∧ z < n ∧ ofN f n z = k := by
  rw [getD_lt 0 hl]
  exact (cmp_mem h).1 (List.getElem_mem hl)
theorem cmp_lens {f : Nat → Nat} {n k : Nat} (h : k < (cmpK f n n).length) : ((cmpK f n n).getD k []).length ≤ n := by
  rw [cmp_get h]
  unfold clsK
  rw [List.length_map]
  exact Nat.le_trans (List.length_filter_le _ _) (by simp)

set_option maxHeartbeats 4000000 in
set_option maxRecDepth 100000 in
theorem lcomps_ok {N : Nat} {w : List Int} (hN : 1 ≤ N) (hw : Wd N w) (h0 : bF N w = 0) : SC Try.prog 44 [pint N, pli w] (.tup [plct (cmpK (eAt w w.length) N N), pint 0]) := by
  have kc := bcheck_s N w
  rw [h0] at kc
  have k2 := components_s hN hw h0
  have hcl := plct_cl (cmpK (eAt w w.length) N N)
  generalize plct (cmpK (eAt w w.length) N N) = pl at *
  refine SC.go {} tok mixed Try.func44 rfl rfl Try.ntmps44 rfl rfl (by kernel_rfl) ?_
  first | simp only [updS] | simp only [updL, Nat.reduceAdd]
  repeat (first | refine S0 ?_ | refine S1 ?_ | refine S2 ?_ | refine S5 ?_ | refine S7 ?_ | refine S8 ?_ | refine S9 ?_ | refine S15 ?_ | refine S16 ?_ | refine S19 ?_ | refine S20 ?_ | refine S23 ?_ | refine S28 ?_ | refine S29 ?_)
  refine Scall (args := [pint N, pli w]) kc ?_
  repeat (first | refine S0 ?_ | refine S1 ?_ | refine S2 ?_ | refine S5 ?_ | refine S7 ?_ | refine S8 ?_ | refine S9 ?_ | refine S15 ?_ | refine S16 ?_ | refine S19 ?_ | refine S20 ?_ | refine S23 ?_ | refine S28 ?_ | refine S29 ?_)
  refine Scall (args := [pint N, pli w]) k2 ?_
  repeat (first | refine S0 ?_ | refine S1 ?_ | refine S2 ?_ | refine S5 ?_ | refine S7 ?_ | refine S8 ?_ | refine S9 ?_ | refine S15 ?_ | refine S16 ?_ | refine S19 ?_ | refine S20 ?_ | refine S23 ?_ | refine S28 ?_ | refine S29 ?_)
  exact ⟨.inr rfl, Fz.pair (.cl hcl) (.cl rfl)⟩
set_option maxHeartbeats 4000000 in
set_option maxRecDepth 100000 in
theorem lcomps_bad {n : Int} {w : List Int} (h0 : bF n w ≠ 0) : SC Try.prog 44 [pint n, pli w] (.tup [.lst true 0 0 [], pint (bF n w)]) := by
  have kc := bcheck_s n w
  refine SC.go {} tok mixed Try.func44 rfl rfl Try.ntmps44 rfl rfl (by kernel_rfl) ?_
  first | simp only [updS] | simp only [updL, Nat.reduceAdd]
  generalize bF n w = e at *
  repeat (first | refine S0 ?_ | refine S1 ?_ | refine S2 ?_ | refine S5 ?_ | refine S7 ?_ | refine S8 ?_ | refine S9 ?_ | refine S15 ?_ | refine S16 ?_ | refine S19 ?_ | refine S20 ?_ | refine S23 ?_ | refine S28 ?_ | refine S29 ?_)
  refine Scall (args := [pint n, pli w]) kc ?_
  repeat (first | refine S0 ?_ | refine S1 ?_ | refine S2 ?_ | refine S5 ?_ | refine S7 ?_ | refine S8 ?_ | refine S9 ?_ | refine S15 ?_ | refine S16 ?_ | refine S19 ?_ | refine S20 ?_ | refine S23 ?_ | refine S28 ?_ | refine S29 ?_)
  exact ⟨.inr rfl, Fz.pair (.cl rfl) (.cl rfl)⟩
set_option maxHeartbeats 4000000 in
set_option maxRecDepth 100000 in
theorem isknot_ok {N : Nat} {w : List Int} (hN : 1 ≤ N) (hw : Wd N w) (h0 : bF N w = 0) : SC Try.prog 46 [pint N, pli w] (.tup [.sc (.bool (decide ((cmpK (eAt w w.length) N N).length = 1))), pint 0]) := by
  have kc := bcheck_s N w
  rw [h0] at kc
  have k2 := components_s hN hw h0
  have hln := cmpK_len (eAt w w.length) N N
  have hN6 := hw.n9
  have hcl := plct_cl (cmpK (eAt w w.length) N N)
  generalize cmpK (eAt w w.length) N N = ms at *
  rw [show decide (ms.length = 1) = decide ((ms.length : Int) = 1) from decide_eq_decide.2 ⟨by omega, by omega⟩]
  refine SC.go {} tok mixed Try.func46 rfl rfl Try.ntmps46 rfl rfl (by kernel_rfl) ?_
  first | simp only [updS] | simp only [updL, Nat.reduceAdd]
  repeat (first | refine S0 ?_ | refine S1 ?_ | refine S2 ?_ | refine S5 ?_ | refine S7 ?_ | refine S8 ?_ | refine S9 ?_ | refine S15 ?_ | refine S16 ?_ | refine S19 ?_ | refine S20 ?_ | refine S23 ?_ | refine S28 ?_ | refine S29 ?_)
  refine Scall (args := [pint N, pli w]) kc ?_
  repeat (first | refine S0 ?_ | refine S1 ?_ | refine S2 ?_ | refine S5 ?_ | refine S7 ?_ | refine S8 ?_ | refine S9 ?_ | refine S15 ?_ | refine S16 ?_ | refine S19 ?_ | refine S20 ?_ | refine S23 ?_ | refine S28 ?_ | refine S29 ?_)
  refine Scall (args := [pint N, pli w]) k2 ?_
  repeat (first | refine S0 ?_ | refine S1 ?_ | refine S2 ?_ | refine S5 ?_ | refine S7 ?_ | refine S8 ?_ | refine S9 ?_ | refine S15 ?_ | refine S16 ?_ | refine S19 ?_ | refine S20 ?_ | refine S23 ?_ | refine S28 ?_ | refine S29 ?_)
  exact ⟨.inr rfl, Fz.pair (.cl rfl) (.cl rfl)⟩
set_option maxHeartbeats 4000000 in
set_option maxRecDepth 100000 in
theorem isknot_bad {n : Int} {w : List Int} (h0 : bF n w ≠ 0) : SC Try.prog 46 [pint n, pli w] (.tup [.sc (.bool false), pint (bF n w)]) := by
  have kc := bcheck_s n w
  refine SC.go {} tok mixed Try.func46 rfl rfl Try.ntmps46 rfl rfl (by kernel_rfl) ?_
  first | simp only [updS] | simp only [updL, Nat.reduceAdd]
  generalize bF n w = e at *
  repeat (first | refine S0 ?_ | refine S1 ?_ | refine S2 ?_ | refine S5 ?_ | refine S7 ?_ | refine S8 ?_ | refine S9 ?_ | refine S15 ?_ | refine S16 ?_ | refine S19 ?_ | refine S20 ?_ | refine S23 ?_ | refine S28 ?_ | refine S29 ?_)
  refine Scall (args := [pint n, pli w]) kc ?_
  repeat (first | refine S0 ?_ | refine S1 ?_ | refine S2 ?_ | refine S5 ?_ | refine S7 ?_ | refine S8 ?_ | refine S9 ?_ | refine S15 ?_ | refine S16 ?_ | refine S19 ?_ | refine S20 ?_ | refine S23 ?_ | refine S28 ?_ | refine S29 ?_)
  exact ⟨.inr rfl, Fz.pair (.cl rfl) (.cl rfl)⟩
set_option maxHeartbeats 4000000 in
set_option maxRecDepth 100000 in
theorem lnums_bad {n : Int} {w : List Int} (h0 : bF n w ≠ 0) : SC Try.prog 45 [pint n, pli w] (.tup [.lst true 0 0 [], pint (bF n w)]) := by
  have kc := bcheck_s n w
  refine SC.go {} tok mixed Try.func45 rfl rfl Try.ntmps45 rfl rfl (by kernel_rfl) ?_
  first | simp only [updS] | simp only [updL, Nat.reduceAdd]
  generalize bF n w = e at *
  repeat (first | refine S0 ?_ | refine S1 ?_ | refine S2 ?_ | refine S5 ?_ | refine S7 ?_ | refine S8 ?_ | refine S9 ?_ | refine S15 ?_ | refine S16 ?_ | refine S19 ?_ | refine S20 ?_ | refine S23 ?_ | refine S28 ?_ | refine S29 ?_)
  refine Scall (args := [pint n, pli w]) kc ?_
  repeat (first | refine S0 ?_ | refine S1 ?_ | refine S2 ?_ | refine S5 ?_ | refine S7 ?_ | refine S8 ?_ | refine S9 ?_ | refine S15 ?_ | refine S16 ?_ | refine S19 ?_ | refine S20 ?_ | refine S23 ?_ | refine S28 ?_ | refine S29 ?_)
  exact ⟨.inr rfl, Fz.pair (.cl rfl) (.cl rfl)⟩
end Go.Proofs.Ytgjfpmjllpgadaa
