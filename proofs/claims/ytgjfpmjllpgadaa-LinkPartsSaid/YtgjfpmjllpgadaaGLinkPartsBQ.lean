/- link.components. No condition of its own. -/
import Derived.Test.YtgjfpmjllpgadaaGLinkPartsBH
import Derived.Test.YtgjfpmjllpgadaaGLinkPartsBO
import Derived.Test.YtgjfpmjllpgadaaGLinkPartsBL
import Derived.Test.YtgjfpmjllpgadaaGLinkPartsBP
set_option linter.unusedVariables false
set_option linter.unusedSimpArgs false
namespace Go.Proofs.Ytgjfpmjllpgadaa
open Go.RowKit

/-- the components, by their first strands below k -/
def cmpK (f : Nat → Nat) (n k : Nat) : List (List Int) := (fstK (nam f n) k).map (clsK (nam f n) n)
theorem cmpK_none {xs : List Int} (hp : Pm xs) {k : Nat} (hk : k < xs.length) (h : (cycAt xs (k + 1)).1 = (cycAt xs k).1) : cmpK (fn xs) xs.length (k + 1) = cmpK (fn xs) xs.length k := by
  rw [(cycAt_rnd hp (k + 1) hk).1, (cycAt_rnd hp k (by omega)).1] at h
  have hm : ¬ mn (fn xs) k := fun hm => by
    have := congrArg List.length h
    simp [rnd, if_pos hm] at this
  unfold cmpK
  rw [fstK_succ, if_neg, List.append_nil]
  intro hc
  rw [List.all_eq_true] at hc
  exact hm ((fst_mn hp.isP hk).1 (fun j hj => by simpa using hc j (List.mem_range.2 hj)))
theorem cmpK_some {xs : List Int} (hp : Pm xs) {k : Nat} (hk : k < xs.length) {c zs : List Int} (h : (cycAt xs (k + 1)).1 = (cycAt xs k).1 ++ [c]) (hz : zs.Perm c) (hs : zs.Pairwise (· ≤ ·)) : cmpK (fn xs) xs.length (k + 1) = cmpK (fn xs) xs.length k ++ [zs] := by
  rw [(cycAt_rnd hp (k + 1) hk).1, (cycAt_rnd hp k (by omega)).1] at h
  have hm : mn (fn xs) k := by
    refine Classical.byContradiction (fun hm => ?_)
    have := congrArg List.length h
    simp [rnd, if_neg hm] at this
  have hc : c = orbL (fn xs) k (per (fn xs) k) := by
    simp only [rnd, if_pos hm] at h
    have := List.append_cancel_left h
    simpa using this.symm
  subst hc
  unfold cmpK
  rw [fstK_succ, if_pos, List.map_append, List.map_singleton, orb_cls hp.isP hk hz hs]
  rw [List.all_eq_true]
  intro j hj
  simpa using (fst_mn hp.isP hk).2 hm j (List.mem_range.1 hj)
/-- a list of lists, all without room -/
def plct (ls : List (List Int)) : PV := .lst true 1 ls.length (ls.map plt)
theorem plct_cl (ls : List (List Int)) : (plct ls).cl = true := by unfold plct; simp only [PV.cl]; exact clL_plt ls
theorem cmpK_len (f : Nat → Nat) (n k : Nat) : (cmpK f n k).length ≤ k := by
  unfold cmpK fstK
  rw [List.length_map]
  exact Nat.le_trans (List.length_filter_le _ _) (by simp)
theorem nam_cong {f g : Nat → Nat} {n : Nat} (h : ∀ i, i < n → f i = g i) : nam f n = nam g n := by
  unfold nam prs
  congr 1
  exact List.map_congr_left (fun i hi => by rw [h i (List.mem_range.1 hi)])

set_option maxHeartbeats 8000000 in
set_option maxRecDepth 100000 in
theorem components_s {N : Nat} {w : List Int} (hN : 1 ≤ N) (hw : Wd N w) (h0 : bF N w = 0) : SC Try.prog 87 [pint N, pli w] (plct (cmpK (eAt w w.length) N N)) := by
  have kp := permutation_ok hN hw h0
  have hN6 := hw.n9
  have hP := hw.isP w.length (Nat.le_refl _)
  obtain ⟨xs, hxs⟩ : ∃ xs, xs = tabN N (eAt w w.length) := ⟨_, rfl⟩
  have hl : xs.length = N := by rw [hxs, tab_len]
  have hp : Pm xs := by rw [hxs]; exact hP.pm
  have hr := hp.rng
  have hfn : ∀ i, i < N → fn xs i = eAt w w.length i := fun i hi => by unfold fn; rw [hxs, tabN_get hi]; rfl
  have hres : cmpK (eAt w w.length) N N = cmpK (fn xs) xs.length xs.length := by
    rw [hl]; unfold cmpK; rw [nam_cong hfn]
  rw [hres]
  rw [← hxs] at kp
  subst hl
  refine SC.go {} tok mixed Try.func87 rfl rfl Try.ntmps87 rfl rfl (by kernel_rfl) ?_
  first | simp only [updS] | simp only [updL, Nat.reduceAdd]
  repeat (first | refine S0 ?_ | refine S1 ?_ | refine S2 ?_ | refine S4 ?_ | refine S5 ?_ | refine S6 ?_ | refine S7 ?_ | refine S8 ?_ | refine S10 ?_ | refine S11 ?_ | refine S13 ?_ | refine S15 ?_ | refine S16 ?_ | refine S19 ?_ | refine S20 ?_ | refine S21 ?_ | refine S22 ?_ | refine S24 ?_ | refine S25 ?_ | refine S26 ?_ | refine S27 ?_ | refine S30 ?_ | refine S34 ?_ | refine S36 ?_ | refine S46 ?_ | refine S49 ?_ | refine S63 ?_ | refine S65 ?_ | refine S72 ?_)
  refine Scall (args := [pint xs.length, pli w]) kp ?_
  repeat (first | refine S0 ?_ | refine S1 ?_ | refine S2 ?_ | refine S4 ?_ | refine S5 ?_ | refine S6 ?_ | refine S7 ?_ | refine S8 ?_ | refine S10 ?_ | refine S11 ?_ | refine S13 ?_ | refine S15 ?_ | refine S16 ?_ | refine S19 ?_ | refine S20 ?_ | refine S21 ?_ | refine S22 ?_ | refine S24 ?_ | refine S25 ?_ | refine S26 ?_ | refine S27 ?_ | refine S30 ?_ | refine S34 ?_ | refine S36 ?_ | refine S46 ?_ | refine S49 ?_ | refine S63 ?_ | refine S65 ?_ | refine S72 ?_)
  refine CW.own 7 1 rfl ?_
  refine CW.loopS (fun i : Nat × Nat => i.1 ≤ xs.length ∧ i.2 ≠ 0 ∧ i.2 % 2 = 0) (fun i => [(5, pli xs), (7, .ref i.2 0 1 (cmpK (fn xs) xs.length i.1).length), (8, .ref 0 0 1 xs.length), (20, pint xs.length), (21, pint i.1)])
    (fun i hp => hp.blk 0 = some (bls xs.length (cycAt xs i.1).2) ∧ hp.blk i.2 = some ((cmpK (fn xs) xs.length i.1).map plt) ∧ 1 ≤ hp.next ∧ i.2 < 2 * hp.next) (fun i => xs.length - i.1) (0, 2) ⟨⟨Nat.zero_le _, by decide, rfl⟩, SLx, HBx, HBx, (by first | omega | (simp only [HP.tokF, HP.tokT, HP.next_add, HP.next_set, HP.next_kill, HP.next_H0, HP.next_addS, HP.next_setS, HP.next_killS, HP.next_put, HP.next_bump, HP.next_putS]; omega)), (by first | omega | (simp only [HP.tokF, HP.tokT, HP.next_add, HP.next_set, HP.next_kill, HP.next_H0, HP.next_addS, HP.next_setS, HP.next_killS, HP.next_put, HP.next_bump, HP.next_putS]; omega))⟩ ?_
  rintro ⟨k, to⟩ t h ⟨hk, ht0, ht2⟩ ⟨hB0, hB1, hnx, htl⟩
  simp only at hk ht0 ht2 hB0 hB1 htl
  first | simp only [updS] | simp only [updL, Nat.reduceAdd]
  have hcl := cmpK_len (fn xs) xs.length k
  by_cases hlt : k < xs.length
  · obtain ⟨cs0, hcs0⟩ : ∃ cs0, cs0 = (cycAt xs k).1 := ⟨_, rfl⟩
    obtain ⟨D0, hD0⟩ : ∃ D0, D0 = (cycAt xs k).2 := ⟨_, rfl⟩
    have hst := Wk.start hr hlt D0
    obtain ⟨R, hR⟩ : ∃ R, R = wk xs xs.length k D0 [] := ⟨_, rfl⟩
    have hdone : ∀ c D, R = (c, D) → (c ≠ [] → cycAt xs (k + 1) = (cs0 ++ [c], D)) ∧ (c = [] → cycAt xs (k + 1) = (cs0, D)) := fun c D e => by
      rw [hR, hD0] at e
      exact ⟨fun hc => by rw [hcs0]; exact cycAt_succ_some e hc, fun hc => by rw [hcs0]; exact cycAt_succ_none e hc⟩
    rw [← hR] at hst
    rw [← hD0] at hB0
    obtain ⟨ms, hms⟩ : ∃ ms, ms = cmpK (fn xs) xs.length k := ⟨_, rfl⟩
    rw [← hms] at hB1 hcl ⊢
    repeat (first | refine S0 ?_ | refine S1 ?_ | refine S2 ?_ | refine S4 ?_ | refine S5 ?_ | refine S6 ?_ | refine S7 ?_ | refine S8 ?_ | refine S10 ?_ | refine S11 ?_ | refine S13 ?_ | refine S15 ?_ | refine S16 ?_ | refine S19 ?_ | refine S20 ?_ | refine S21 ?_ | refine S22 ?_ | refine S24 ?_ | refine S25 ?_ | refine S26 ?_ | refine S27 ?_ | refine S30 ?_ | refine S34 ?_ | refine S36 ?_ | refine S46 ?_ | refine S49 ?_ | refine S63 ?_ | refine S65 ?_ | refine S72 ?_)
    refine CW.own 10 1 rfl ?_
    refine CW.loopS (fun i : Nat × (Nat → Bool) × List Int × Nat => Wk xs i.1 i.2.1 i.2.2.1 R ∧ i.2.2.2 ≠ 0 ∧ i.2.2.2 ≠ to ∧ i.2.2.2 % 2 = 0) (fun i => [(5, pli xs), (7, .ref to 0 1 ms.length), (8, .ref 0 0 1 xs.length), (10, .ref i.2.2.2 0 1 i.2.2.1.length), (11, pint i.1), (20, pint xs.length), (21, pint k)])
      (fun i hp => hp.blk 0 = some (bls xs.length i.2.1) ∧ hp.blk to = some (ms.map plt) ∧ hp.blk i.2.2.2 = some (ints i.2.2.1) ∧ 1 ≤ hp.next ∧ to < 2 * hp.next) (fun i => freeN i.2.1 xs.length) (k, D0, [], 2 * h.next) ⟨⟨hst, by simp only; omega, by simp only; omega, by simp only; omega⟩, SLx, HBx, HBx, HBx, (by first | omega | (simp only [HP.tokF, HP.tokT, HP.next_add, HP.next_set, HP.next_kill, HP.next_H0, HP.next_addS, HP.next_setS, HP.next_killS, HP.next_put, HP.next_bump, HP.next_putS]; omega)), (by first | omega | (simp only [HP.tokF, HP.tokT, HP.next_add, HP.next_set, HP.next_kill, HP.next_H0, HP.next_addS, HP.next_setS, HP.next_killS, HP.next_put, HP.next_bump, HP.next_putS]; omega))⟩ ?_
    clear hst hB0 hB1 hnx htl
    clear t h
    rintro ⟨x, D, c, tc⟩ t h ⟨hwk, hc0, hc1, hc2⟩ ⟨hB0, hB1, hB2, hnx, htl⟩
    simp only at hwk hc0 hc1 hc2 hB0 hB1 hB2
    first | simp only [updS] | simp only [updL, Nat.reduceAdd]
    have hx := hwk.hx
    have hlen := hwk.len
    cases hDx : D x with
    | true =>
      obtain ⟨e1, e2⟩ := hdone c D (hwk.done hDx)
      repeat (first | refine S0 ?_ | refine S1 ?_ | refine S2 ?_ | refine S4 ?_ | refine S5 ?_ | refine S6 ?_ | refine S7 ?_ | refine S8 ?_ | refine S10 ?_ | refine S11 ?_ | refine S13 ?_ | refine S15 ?_ | refine S16 ?_ | refine S19 ?_ | refine S20 ?_ | refine S21 ?_ | refine S22 ?_ | refine S24 ?_ | refine S25 ?_ | refine S26 ?_ | refine S27 ?_ | refine S30 ?_ | refine S34 ?_ | refine S36 ?_ | refine S46 ?_ | refine S49 ?_ | refine S63 ?_ | refine S65 ?_ | refine S72 ?_)
      by_cases hc : c.length = 0
      · obtain rfl : c = [] := List.length_eq_zero_iff.1 hc
        have e3 := cmpK_none hp hlt (by rw [e2 rfl, hcs0])
        rw [← hms] at e3
        repeat (first | refine S0 ?_ | refine S1 ?_ | refine S2 ?_ | refine S4 ?_ | refine S5 ?_ | refine S6 ?_ | refine S7 ?_ | refine S8 ?_ | refine S10 ?_ | refine S11 ?_ | refine S13 ?_ | refine S15 ?_ | refine S16 ?_ | refine S19 ?_ | refine S20 ?_ | refine S21 ?_ | refine S22 ?_ | refine S24 ?_ | refine S25 ?_ | refine S26 ?_ | refine S27 ?_ | refine S30 ?_ | refine S34 ?_ | refine S36 ?_ | refine S46 ?_ | refine S49 ?_ | refine S63 ?_ | refine S65 ?_ | refine S72 ?_)
        refine ⟨(k + 1, to), ⟨by simp only; omega, ht0, ht2⟩, ?_, ⟨?_, ?_, hnx, htl⟩, by simp only; omega⟩
        · simp only; rw [e3]; exact SLx
        · simp only; rw [e2 rfl]; exact HBx
        · simp only; rw [e3]; exact HBx
      · have hc' : c ≠ [] := fun e => hc (by rw [e]; rfl)
        repeat (first | refine S0 ?_ | refine S1 ?_ | refine S2 ?_ | refine S4 ?_ | refine S5 ?_ | refine S6 ?_ | refine S7 ?_ | refine S8 ?_ | refine S10 ?_ | refine S11 ?_ | refine S13 ?_ | refine S15 ?_ | refine S16 ?_ | refine S19 ?_ | refine S20 ?_ | refine S21 ?_ | refine S22 ?_ | refine S24 ?_ | refine S25 ?_ | refine S26 ?_ | refine S27 ?_ | refine S30 ?_ | refine S34 ?_ | refine S36 ?_ | refine S46 ?_ | refine S49 ?_ | refine S63 ?_ | refine S65 ?_ | refine S72 ?_)
        refine Scalle (args := [.ref tc 0 1 c.length]) (sort_e (by omega) hB2) ?_
        rintro r h' ⟨zs, g1, g2, g3, hFr⟩
        have e3 := cmpK_some hp hlt (by rw [e1 hc', hcs0]) g1 g2
        rw [← hms] at e3
        have hzl := g1.length_eq
        have hB0' : h'.blk 0 = some (bls xs.length D) := by rw [hFr.blk 0 (by omega) (by simp; omega)]; exact hB0
        have hB1' : h'.blk to = some (ms.map plt) := by rw [hFr.blk to htl (by simp; omega)]; exact hB1
        have hnx' := hFr.next
        iterate 2 (first | refine S0 ?_ | refine S1 ?_ | refine S2 ?_ | refine S4 ?_ | refine S5 ?_ | refine S6 ?_ | refine S7 ?_ | refine S8 ?_ | refine S10 ?_ | refine S11 ?_ | refine S13 ?_ | refine S15 ?_ | refine S16 ?_ | refine S19 ?_ | refine S20 ?_ | refine S21 ?_ | refine S22 ?_ | refine S24 ?_ | refine S25 ?_ | refine S26 ?_ | refine S27 ?_ | refine S30 ?_ | refine S34 ?_ | refine S36 ?_ | refine S46 ?_ | refine S49 ?_ | refine S63 ?_ | refine S65 ?_ | refine S72 ?_)
        refine CW.freeze 10 (m := c.length) (v := pli zs) rfl HBx (by simp; omega) (by rw [← hzl]; simp [ints_take, pli]) ?_
        repeat (first | refine S0 ?_ | refine S1 ?_ | refine S2 ?_ | refine S4 ?_ | refine S5 ?_ | refine S6 ?_ | refine S7 ?_ | refine S8 ?_ | refine S10 ?_ | refine S11 ?_ | refine S13 ?_ | refine S15 ?_ | refine S16 ?_ | refine S19 ?_ | refine S20 ?_ | refine S21 ?_ | refine S22 ?_ | refine S24 ?_ | refine S25 ?_ | refine S26 ?_ | refine S27 ?_ | refine S30 ?_ | refine S34 ?_ | refine S36 ?_ | refine S46 ?_ | refine S49 ?_ | refine S63 ?_ | refine S65 ?_ | refine S72 ?_)
        refine Scall (args := [pli zs]) (clip_s zs) ?_
        repeat (first | refine S0 ?_ | refine S1 ?_ | refine S2 ?_ | refine S4 ?_ | refine S5 ?_ | refine S6 ?_ | refine S7 ?_ | refine S8 ?_ | refine S10 ?_ | refine S11 ?_ | refine S13 ?_ | refine S15 ?_ | refine S16 ?_ | refine S19 ?_ | refine S20 ?_ | refine S21 ?_ | refine S22 ?_ | refine S24 ?_ | refine S25 ?_ | refine S26 ?_ | refine S27 ?_ | refine S30 ?_ | refine S34 ?_ | refine S36 ?_ | refine S46 ?_ | refine S49 ?_ | refine S63 ?_ | refine S65 ?_ | refine S72 ?_)
        refine ⟨(k + 1, 2 * h'.next), ⟨by simp only; omega, by simp only; omega, by simp only; omega⟩, ?_, ⟨?_, ?_, (by first | omega | (simp only [HP.tokF, HP.tokT, HP.next_add, HP.next_set, HP.next_kill, HP.next_H0, HP.next_addS, HP.next_setS, HP.next_killS, HP.next_put, HP.next_bump, HP.next_putS]; omega)), (by first | omega | (simp only [HP.tokF, HP.tokT, HP.next_add, HP.next_set, HP.next_kill, HP.next_H0, HP.next_addS, HP.next_setS, HP.next_killS, HP.next_put, HP.next_bump, HP.next_putS]; omega))⟩, by simp only; omega⟩
        · simp only; rw [e3]; exact SLx
        · simp only; rw [e1 hc']; exact HBx
        · simp only; rw [e3]; exact HBx
    | false =>
      obtain ⟨g1, g2⟩ := hwk.step hr hDx
      have hxr := hr x hx
      repeat (first | refine S0 ?_ | refine S1 ?_ | refine S2 ?_ | refine S4 ?_ | refine S5 ?_ | refine S6 ?_ | refine S7 ?_ | refine S8 ?_ | refine S10 ?_ | refine S11 ?_ | refine S13 ?_ | refine S15 ?_ | refine S16 ?_ | refine S19 ?_ | refine S20 ?_ | refine S21 ?_ | refine S22 ?_ | refine S24 ?_ | refine S25 ?_ | refine S26 ?_ | refine S27 ?_ | refine S30 ?_ | refine S34 ?_ | refine S36 ?_ | refine S46 ?_ | refine S49 ?_ | refine S63 ?_ | refine S65 ?_ | refine S72 ?_)
      refine ⟨((xs.getD x 0).toNat, mark D x, c ++ [(x : Int)], 2 * h.next), ⟨g1, by simp only; omega, by simp only; omega, by simp only; omega⟩, ?_, ⟨?_, HBx, HBx, (by first | omega | (simp only [HP.tokF, HP.tokT, HP.next_add, HP.next_set, HP.next_kill, HP.next_H0, HP.next_addS, HP.next_setS, HP.next_killS, HP.next_put, HP.next_bump, HP.next_putS]; omega)), (by first | omega | (simp only [HP.tokF, HP.tokT, HP.next_add, HP.next_set, HP.next_kill, HP.next_H0, HP.next_addS, HP.next_setS, HP.next_killS, HP.next_put, HP.next_bump, HP.next_putS]; omega))⟩, g2⟩
      · simp only
        rw [show (((xs.getD x 0).toNat : Nat) : Int) = xs.getD x 0 by omega]
        exact SLx
      · simp only
        rw [show bls xs.length (mark D x) = (bls xs.length D).set x (.sc (.bool true)) from (bls_set hx (if_pos rfl) (fun j hj => if_neg hj)).symm]
        exact HBx
  · obtain rfl : k = xs.length := by omega
    generalize cmpK (fn xs) xs.length xs.length = ms at *
    refine CW.freeze 7 (m := ms.length) (v := .lst false 1 ms.length (ms.map plt)) rfl HBx (by simp) (by rw [List.drop_zero, List.take_of_length_le (by simp)]) ?_
    repeat (first | refine S0 ?_ | refine S1 ?_ | refine S2 ?_ | refine S4 ?_ | refine S5 ?_ | refine S6 ?_ | refine S7 ?_ | refine S8 ?_ | refine S10 ?_ | refine S11 ?_ | refine S13 ?_ | refine S15 ?_ | refine S16 ?_ | refine S19 ?_ | refine S20 ?_ | refine S21 ?_ | refine S22 ?_ | refine S24 ?_ | refine S25 ?_ | refine S26 ?_ | refine S27 ?_ | refine S30 ?_ | refine S34 ?_ | refine S36 ?_ | refine S46 ?_ | refine S49 ?_ | refine S63 ?_ | refine S65 ?_ | refine S72 ?_)
    refine Scall (args := [.lst false 1 ms.length (ms.map plt)]) (clipL_s (by simp) (clL_plt ms)) ?_ (hc := by simp only [PV.cl.clL, PV.cl, clL_plt, Bool.and_self])
    repeat (first | refine S0 ?_ | refine S1 ?_ | refine S2 ?_ | refine S4 ?_ | refine S5 ?_ | refine S6 ?_ | refine S7 ?_ | refine S8 ?_ | refine S10 ?_ | refine S11 ?_ | refine S13 ?_ | refine S15 ?_ | refine S16 ?_ | refine S19 ?_ | refine S20 ?_ | refine S21 ?_ | refine S22 ?_ | refine S24 ?_ | refine S25 ?_ | refine S26 ?_ | refine S27 ?_ | refine S30 ?_ | refine S34 ?_ | refine S36 ?_ | refine S46 ?_ | refine S49 ?_ | refine S63 ?_ | refine S65 ?_ | refine S72 ?_)
    exact ⟨.inr rfl, .cl (plct_cl ms)⟩
end Go.Proofs.Ytgjfpmjllpgadaa
