/- Braids: the permutation, the exponent sum, the inverse. No condition of its own. -/
import Derived.Test.YtgjfpmjllpgadaaGLinkPartsBK
set_option linter.unusedVariables false
set_option linter.unusedSimpArgs false
namespace Go.Proofs.Ytgjfpmjllpgadaa
open Go.RowKit

/-- what a letter of size i does to a place -/
def tau (i j : Nat) : Nat := if j + 1 = i then i else if j = i then i - 1 else j
theorem tau_lt {n i j : Nat} (hi : 1 ≤ i ∧ i < n) (hj : j < n) : tau i j < n := by unfold tau; split <;> (try split) <;> omega
theorem tau_tau {n i j : Nat} (hi : 1 ≤ i ∧ i < n) : tau i (tau i j) = j := by unfold tau; split <;> (try split) <;> (try split) <;> (try split) <;> omega
def ltr (x : Int) : Nat := (absI x).toNat
/-- where a strand is after the letters; which strand is at a place -/
def eAt (w : List Int) : Nat → Nat → Nat
  | 0, s => s
  | k + 1, s => tau (ltr (w.getD k 0)) (eAt w k s)
def fAt (w : List Int) : Nat → Nat → Nat
  | 0, j => j
  | k + 1, j => fAt w k (tau (ltr (w.getD k 0)) j)
structure Wd (n : Nat) (w : List Int) : Prop where
  n9 : n ≤ 6
  len : w.length ≤ 30
  lt : ∀ k, k < w.length → letP n (w.getD k 0)
theorem Wd.of {n : Int} {w : List Int} (h : bF n w = 0) : ∃ m : Nat, n = (m : Int) ∧ 1 ≤ m ∧ Wd m w := by
  obtain ⟨h1, h2, h3⟩ := bF_ok h
  refine ⟨n.toNat, by omega, by omega, by omega, h2, fun k hk => ?_⟩
  rw [show ((n.toNat : Nat) : Int) = n by omega]
  exact h3 _ (by rw [getD_lt 0 hk]; exact List.getElem_mem hk)
theorem Wd.ltr {n : Nat} {w : List Int} (h : Wd n w) {k : Nat} (hk : k < w.length) : 1 ≤ ltr (w.getD k 0) ∧ ltr (w.getD k 0) < n ∧ ((ltr (w.getD k 0) : Nat) : Int) = absI (w.getD k 0) := by
  have := abs_let (h.lt k hk) (by have := h.n9; omega)
  unfold Go.Proofs.Ytgjfpmjllpgadaa.ltr; omega
theorem Wd.e_lt {n : Nat} {w : List Int} (h : Wd n w) : ∀ k, k ≤ w.length → ∀ s, s < n → eAt w k s < n
  | 0, _, s, hs => hs
  | k + 1, hk, s, hs => tau_lt ⟨(h.ltr (k := k) hk).1, (h.ltr (k := k) hk).2.1⟩ (h.e_lt k (by omega) s hs)
theorem Wd.f_lt {n : Nat} {w : List Int} (h : Wd n w) : ∀ k, k ≤ w.length → ∀ s, s < n → fAt w k s < n
  | 0, _, s, hs => hs
  | k + 1, hk, s, hs => h.f_lt k (by omega) _ (tau_lt ⟨(h.ltr (k := k) hk).1, (h.ltr (k := k) hk).2.1⟩ hs)
theorem Wd.fe {n : Nat} {w : List Int} (h : Wd n w) : ∀ k, k ≤ w.length → ∀ s, fAt w k (eAt w k s) = s
  | 0, _, s => rfl
  | k + 1, hk, s => by
    simp only [fAt, eAt]
    rw [tau_tau (n := n) ⟨(h.ltr (k := k) hk).1, (h.ltr (k := k) hk).2.1⟩]
    exact h.fe k (by omega) s
theorem Wd.ef {n : Nat} {w : List Int} (h : Wd n w) : ∀ k, k ≤ w.length → ∀ s, eAt w k (fAt w k s) = s
  | 0, _, s => rfl
  | k + 1, hk, s => by
    simp only [fAt, eAt]
    rw [h.ef k (by omega)]
    exact tau_tau (n := n) ⟨(h.ltr (k := k) hk).1, (h.ltr (k := k) hk).2.1⟩
/-- two places change their strands -/
theorem swap_tab {n i : Nat} {F : Nat → Nat} (hi : 1 ≤ i ∧ i < n) : ((tabN n F).set (i - 1) ((tabN n F).getD i 0)).set i ((tabN n F).getD (i - 1) 0) = tabN n (fun j => F (tau i j)) := by
  rw [tabN_get hi.2, tabN_get (F := F) (by omega : i - 1 < n)]
  apply List.ext_getElem
  · simp
  · intro j h1 h2
    simp only [tab_len] at h2
    rw [List.getElem_set, List.getElem_set]
    unfold tau
    by_cases e1 : i = j
    · subst e1
      rw [if_pos rfl]
      simp [tabN, show ¬ (i + 1 = i) by omega]
    · rw [if_neg e1]
      by_cases e2 : i - 1 = j
      · rw [if_pos e2]
        simp [tabN, show j + 1 = i by omega]
      · rw [if_neg e2]
        simp [tabN, show ¬ (j + 1 = i) by omega, show ¬ (j = i) by omega]
set_option maxHeartbeats 2000000 in
set_option maxRecDepth 100000 in
theorem permutation_ok {n : Nat} {w : List Int} (hn : 1 ≤ n) (h : Wd n w) (h0 : bF n w = 0) : SC Try.prog 14 [pint n, pli w] (.tup [pli (tabN n (eAt w w.length)), pint 0]) := by
  refine SC.go {} tok mixed Try.func14 rfl rfl Try.ntmps14 rfl rfl (by kernel_rfl) ?_
  first | simp only [updS] | simp only [updL, Nat.reduceAdd]
  have hC := bcheck_s n w
  rw [h0] at hC
  have h6 := h.n9
  have hlw := h.len
  have hI := identity_o n (by omega)
  repeat (first | refine S0 ?_ | refine S1 ?_ | refine S2 ?_ | refine S3 ?_ | refine S4 ?_ | refine S5 ?_ | refine S6 ?_ | refine S7 ?_ | refine S8 ?_ | refine S9 ?_ | refine S10 ?_ | refine S11 ?_ | refine S13 ?_ | refine S15 ?_ | refine S16 ?_ | refine S19 ?_ | refine S20 ?_ | refine S21 ?_ | refine S22 ?_ | refine S23 ?_ | refine S25 ?_ | refine S26 ?_ | refine S27 ?_ | refine S28 ?_ | refine S29 ?_ | refine S33 ?_ | refine S46 ?_ | refine S65 ?_ | refine S71 ?_)
  refine Scall (args := [pint n, pli w]) hC ?_
  repeat (first | refine S0 ?_ | refine S1 ?_ | refine S2 ?_ | refine S3 ?_ | refine S4 ?_ | refine S5 ?_ | refine S6 ?_ | refine S7 ?_ | refine S8 ?_ | refine S9 ?_ | refine S10 ?_ | refine S11 ?_ | refine S13 ?_ | refine S15 ?_ | refine S16 ?_ | refine S19 ?_ | refine S20 ?_ | refine S21 ?_ | refine S22 ?_ | refine S23 ?_ | refine S25 ?_ | refine S26 ?_ | refine S27 ?_ | refine S28 ?_ | refine S29 ?_ | refine S33 ?_ | refine S46 ?_ | refine S65 ?_ | refine S71 ?_)
  refine Scallo (args := [pint n]) hI ?_
  repeat (first | refine S0 ?_ | refine S1 ?_ | refine S2 ?_ | refine S3 ?_ | refine S4 ?_ | refine S5 ?_ | refine S6 ?_ | refine S7 ?_ | refine S8 ?_ | refine S9 ?_ | refine S10 ?_ | refine S11 ?_ | refine S13 ?_ | refine S15 ?_ | refine S16 ?_ | refine S19 ?_ | refine S20 ?_ | refine S21 ?_ | refine S22 ?_ | refine S23 ?_ | refine S25 ?_ | refine S26 ?_ | refine S27 ?_ | refine S28 ?_ | refine S29 ?_ | refine S33 ?_ | refine S46 ?_ | refine S65 ?_ | refine S71 ?_)
  refine CW.loopS (fun k : Nat => k ≤ w.length) (fun k => [(7, .ref 0 0 1 n), (19, pli w), (20, pint w.length), (21, pint k)]) (fun k h => h.blk 0 = some (ints (tabN n (fAt w k)))) (fun k => w.length - k) 0 ⟨by omega, SLx, (by (try dsimp only); repeat' (first | exact HBx | exact SBx | refine And.intro ?_ ?_))⟩ ?_
  rintro k t hp hk B
  first | simp only [updS] | simp only [updL, Nat.reduceAdd]
  by_cases hk2 : k < w.length
  · obtain ⟨l1, l2, l3⟩ := h.ltr hk2
    have hx := abs_let (h.lt k hk2) (by omega)
    have hX := bindex_s (w.getD k 0) (by omega)
    rw [← l3] at hX
    have hsw := swap_tab (n := n) (F := fAt w k) ⟨l1, l2⟩
    generalize hg : ltr (w.getD k 0) = i at *
    have hl := tab_len n (fAt w k)
    repeat (first | refine S0 ?_ | refine S1 ?_ | refine S2 ?_ | refine S3 ?_ | refine S4 ?_ | refine S5 ?_ | refine S6 ?_ | refine S7 ?_ | refine S8 ?_ | refine S9 ?_ | refine S10 ?_ | refine S11 ?_ | refine S13 ?_ | refine S15 ?_ | refine S16 ?_ | refine S19 ?_ | refine S20 ?_ | refine S21 ?_ | refine S22 ?_ | refine S23 ?_ | refine S25 ?_ | refine S26 ?_ | refine S27 ?_ | refine S28 ?_ | refine S29 ?_ | refine S33 ?_ | refine S46 ?_ | refine S65 ?_ | refine S71 ?_)
    refine Scall (args := [pint (w.getD k 0)]) hX ?_
    repeat (first | refine S0 ?_ | refine S1 ?_ | refine S2 ?_ | refine S3 ?_ | refine S4 ?_ | refine S5 ?_ | refine S6 ?_ | refine S7 ?_ | refine S8 ?_ | refine S9 ?_ | refine S10 ?_ | refine S11 ?_ | refine S13 ?_ | refine S15 ?_ | refine S16 ?_ | refine S19 ?_ | refine S20 ?_ | refine S21 ?_ | refine S22 ?_ | refine S23 ?_ | refine S25 ?_ | refine S26 ?_ | refine S27 ?_ | refine S28 ?_ | refine S29 ?_ | refine S33 ?_ | refine S46 ?_ | refine S65 ?_ | refine S71 ?_)
    simp only [Nat.zero_add, Nat.mul_one, Int.toNat_natCast, show ((i : Int) - 1).toNat = i - 1 by omega]
    rw [hsw]
    subst hg
    exact ⟨k + 1, by omega, SLx, (by (try dsimp only); repeat' (first | exact HBx | exact SBx | refine And.intro ?_ ?_)), by omega⟩
  · obtain rfl : k = w.length := by omega
    have hP := pback_s (n := n) (F := fAt w w.length) (G := eAt w w.length) rfl (h.f_lt _ hk) (fun s hs => ⟨h.e_lt _ hk s hs, h.fe _ hk s, h.ef _ hk s⟩) (by omega)
    refine CW.freezeI (xs := tabN n (fAt w w.length)) 7 ?_ B ?_
    · rw [tab_len]; rfl
    repeat (first | refine S0 ?_ | refine S1 ?_ | refine S2 ?_ | refine S3 ?_ | refine S4 ?_ | refine S5 ?_ | refine S6 ?_ | refine S7 ?_ | refine S8 ?_ | refine S9 ?_ | refine S10 ?_ | refine S11 ?_ | refine S13 ?_ | refine S15 ?_ | refine S16 ?_ | refine S19 ?_ | refine S20 ?_ | refine S21 ?_ | refine S22 ?_ | refine S23 ?_ | refine S25 ?_ | refine S26 ?_ | refine S27 ?_ | refine S28 ?_ | refine S29 ?_ | refine S33 ?_ | refine S46 ?_ | refine S65 ?_ | refine S71 ?_)
    refine Scall (args := [pli (tabN n (fAt w w.length))]) hP ?_
    repeat (first | refine S0 ?_ | refine S1 ?_ | refine S2 ?_ | refine S3 ?_ | refine S4 ?_ | refine S5 ?_ | refine S6 ?_ | refine S7 ?_ | refine S8 ?_ | refine S9 ?_ | refine S10 ?_ | refine S11 ?_ | refine S13 ?_ | refine S15 ?_ | refine S16 ?_ | refine S19 ?_ | refine S20 ?_ | refine S21 ?_ | refine S22 ?_ | refine S23 ?_ | refine S25 ?_ | refine S26 ?_ | refine S27 ?_ | refine S28 ?_ | refine S29 ?_ | refine S33 ?_ | refine S46 ?_ | refine S65 ?_ | refine S71 ?_)
    exact ⟨.inr rfl, Fz.pair (.cl (pli_cl _)) (.cl rfl)⟩
set_option maxHeartbeats 2000000 in
set_option maxRecDepth 100000 in
theorem ends_s {n : Nat} {w : List Int} (hn : 1 ≤ n) (h : Wd n w) : SC Try.prog 21 [pint n, pli w] (pli (tabN n (eAt w w.length))) := by
  refine SC.go {} tok mixed Try.func21 rfl rfl Try.ntmps21 rfl rfl (by kernel_rfl) ?_
  first | simp only [updS] | simp only [updL, Nat.reduceAdd]
  have h6 := h.n9
  have hlw := h.len
  repeat (first | refine S0 ?_ | refine S1 ?_ | refine S2 ?_ | refine S3 ?_ | refine S4 ?_ | refine S5 ?_ | refine S6 ?_ | refine S7 ?_ | refine S8 ?_ | refine S9 ?_ | refine S10 ?_ | refine S11 ?_ | refine S13 ?_ | refine S15 ?_ | refine S16 ?_ | refine S19 ?_ | refine S20 ?_ | refine S21 ?_ | refine S22 ?_ | refine S23 ?_ | refine S25 ?_ | refine S26 ?_ | refine S27 ?_ | refine S28 ?_ | refine S29 ?_ | refine S33 ?_ | refine S46 ?_ | refine S65 ?_ | refine S71 ?_)
  refine CW.loopS (fun s : Nat => s ≤ n) (fun s => [(1, pli w), (5, .ref 0 0 1 n), (12, pint n), (13, pint s)]) (fun s h => h.blk 0 = some (ints (fillT n s (fun i => ((eAt w w.length i : Nat) : Int))))) (fun s => n - s) 0 ⟨by omega, SLx, by rw [fillT_zero]; exact HBx⟩ ?_
  rintro s t hp hs B
  first | simp only [updS] | simp only [updL, Nat.reduceAdd]
  have hl := fillT_len n s (fun i => ((eAt w w.length i : Nat) : Int))
  by_cases hs2 : s < n
  · have hset : (fillT n s (fun i => ((eAt w w.length i : Nat) : Int))).set s ((eAt w w.length s : Nat) : Int) = fillT n (s + 1) (fun i => ((eAt w w.length i : Nat) : Int)) := fillT_set hs2
    repeat (first | refine S0 ?_ | refine S1 ?_ | refine S2 ?_ | refine S3 ?_ | refine S4 ?_ | refine S5 ?_ | refine S6 ?_ | refine S7 ?_ | refine S8 ?_ | refine S9 ?_ | refine S10 ?_ | refine S11 ?_ | refine S13 ?_ | refine S15 ?_ | refine S16 ?_ | refine S19 ?_ | refine S20 ?_ | refine S21 ?_ | refine S22 ?_ | refine S23 ?_ | refine S25 ?_ | refine S26 ?_ | refine S27 ?_ | refine S28 ?_ | refine S29 ?_ | refine S33 ?_ | refine S46 ?_ | refine S65 ?_ | refine S71 ?_)
    refine CW.loopS (fun k : Nat => k ≤ w.length) (fun k => [(1, pli w), (5, .ref 0 0 1 n), (12, pint n), (13, pint s), (6, pint s), (7, pint (eAt w k s)), (17, pli w), (18, pint w.length), (19, pint k)]) (fun _ h => h.blk 0 = some (ints (fillT n s (fun i => ((eAt w w.length i : Nat) : Int))))) (fun k => w.length - k) 0 ⟨by omega, SLx, (by (try dsimp only); repeat' (first | exact HBx | exact SBx | refine And.intro ?_ ?_))⟩ ?_
    clear B
    rintro k t hp hk B
    first | simp only [updS] | simp only [updL, Nat.reduceAdd]
    by_cases hk2 : k < w.length
    · obtain ⟨l1, l2, l3⟩ := h.ltr hk2
      have hx := abs_let (h.lt k hk2) (by omega)
      have hX := rindex_s (w.getD k 0) (by omega)
      have he := h.e_lt k hk s hs2
      rw [← l3] at hX
      have ht : eAt w (k + 1) s = tau (ltr (w.getD k 0)) (eAt w k s) := rfl
      generalize hg : ltr (w.getD k 0) = i at *
      generalize hg2 : eAt w k s = a at *
      by_cases c1 : a + 1 = i
      · rw [show tau i a = a + 1 by unfold tau; rw [if_pos c1]; omega] at ht
        repeat (first | refine S0 ?_ | refine S1 ?_ | refine S2 ?_ | refine S3 ?_ | refine S4 ?_ | refine S5 ?_ | refine S6 ?_ | refine S7 ?_ | refine S8 ?_ | refine S9 ?_ | refine S10 ?_ | refine S11 ?_ | refine S13 ?_ | refine S15 ?_ | refine S16 ?_ | refine S19 ?_ | refine S20 ?_ | refine S21 ?_ | refine S22 ?_ | refine S23 ?_ | refine S25 ?_ | refine S26 ?_ | refine S27 ?_ | refine S28 ?_ | refine S29 ?_ | refine S33 ?_ | refine S46 ?_ | refine S65 ?_ | refine S71 ?_)
        refine Scall (args := [pint (w.getD k 0)]) hX ?_
        repeat (first | refine S0 ?_ | refine S1 ?_ | refine S2 ?_ | refine S3 ?_ | refine S4 ?_ | refine S5 ?_ | refine S6 ?_ | refine S7 ?_ | refine S8 ?_ | refine S9 ?_ | refine S10 ?_ | refine S11 ?_ | refine S13 ?_ | refine S15 ?_ | refine S16 ?_ | refine S19 ?_ | refine S20 ?_ | refine S21 ?_ | refine S22 ?_ | refine S23 ?_ | refine S25 ?_ | refine S26 ?_ | refine S27 ?_ | refine S28 ?_ | refine S29 ?_ | refine S33 ?_ | refine S46 ?_ | refine S65 ?_ | refine S71 ?_)
        exact ⟨k + 1, by omega, by rw [ht]; exact SLx, (by (try dsimp only); repeat' (first | exact HBx | exact SBx | refine And.intro ?_ ?_)), by omega⟩
      · by_cases c2 : a = i
        · rw [show tau i a = a - 1 by unfold tau; rw [if_neg c1, if_pos c2, c2]] at ht
          repeat (first | refine S0 ?_ | refine S1 ?_ | refine S2 ?_ | refine S3 ?_ | refine S4 ?_ | refine S5 ?_ | refine S6 ?_ | refine S7 ?_ | refine S8 ?_ | refine S9 ?_ | refine S10 ?_ | refine S11 ?_ | refine S13 ?_ | refine S15 ?_ | refine S16 ?_ | refine S19 ?_ | refine S20 ?_ | refine S21 ?_ | refine S22 ?_ | refine S23 ?_ | refine S25 ?_ | refine S26 ?_ | refine S27 ?_ | refine S28 ?_ | refine S29 ?_ | refine S33 ?_ | refine S46 ?_ | refine S65 ?_ | refine S71 ?_)
          refine Scall (args := [pint (w.getD k 0)]) hX ?_
          repeat (first | refine S0 ?_ | refine S1 ?_ | refine S2 ?_ | refine S3 ?_ | refine S4 ?_ | refine S5 ?_ | refine S6 ?_ | refine S7 ?_ | refine S8 ?_ | refine S9 ?_ | refine S10 ?_ | refine S11 ?_ | refine S13 ?_ | refine S15 ?_ | refine S16 ?_ | refine S19 ?_ | refine S20 ?_ | refine S21 ?_ | refine S22 ?_ | refine S23 ?_ | refine S25 ?_ | refine S26 ?_ | refine S27 ?_ | refine S28 ?_ | refine S29 ?_ | refine S33 ?_ | refine S46 ?_ | refine S65 ?_ | refine S71 ?_)
          refine Scall (args := [pint (w.getD k 0)]) hX ?_
          repeat (first | refine S0 ?_ | refine S1 ?_ | refine S2 ?_ | refine S3 ?_ | refine S4 ?_ | refine S5 ?_ | refine S6 ?_ | refine S7 ?_ | refine S8 ?_ | refine S9 ?_ | refine S10 ?_ | refine S11 ?_ | refine S13 ?_ | refine S15 ?_ | refine S16 ?_ | refine S19 ?_ | refine S20 ?_ | refine S21 ?_ | refine S22 ?_ | refine S23 ?_ | refine S25 ?_ | refine S26 ?_ | refine S27 ?_ | refine S28 ?_ | refine S29 ?_ | refine S33 ?_ | refine S46 ?_ | refine S65 ?_ | refine S71 ?_)
          exact ⟨k + 1, by omega, by rw [ht, show ((a - 1 : Nat) : Int) = (a : Int) - 1 by omega]; exact SLx, (by (try dsimp only); repeat' (first | exact HBx | exact SBx | refine And.intro ?_ ?_)), by omega⟩
        · rw [show tau i a = a by unfold tau; rw [if_neg c1, if_neg c2]] at ht
          repeat (first | refine S0 ?_ | refine S1 ?_ | refine S2 ?_ | refine S3 ?_ | refine S4 ?_ | refine S5 ?_ | refine S6 ?_ | refine S7 ?_ | refine S8 ?_ | refine S9 ?_ | refine S10 ?_ | refine S11 ?_ | refine S13 ?_ | refine S15 ?_ | refine S16 ?_ | refine S19 ?_ | refine S20 ?_ | refine S21 ?_ | refine S22 ?_ | refine S23 ?_ | refine S25 ?_ | refine S26 ?_ | refine S27 ?_ | refine S28 ?_ | refine S29 ?_ | refine S33 ?_ | refine S46 ?_ | refine S65 ?_ | refine S71 ?_)
          refine Scall (args := [pint (w.getD k 0)]) hX ?_
          repeat (first | refine S0 ?_ | refine S1 ?_ | refine S2 ?_ | refine S3 ?_ | refine S4 ?_ | refine S5 ?_ | refine S6 ?_ | refine S7 ?_ | refine S8 ?_ | refine S9 ?_ | refine S10 ?_ | refine S11 ?_ | refine S13 ?_ | refine S15 ?_ | refine S16 ?_ | refine S19 ?_ | refine S20 ?_ | refine S21 ?_ | refine S22 ?_ | refine S23 ?_ | refine S25 ?_ | refine S26 ?_ | refine S27 ?_ | refine S28 ?_ | refine S29 ?_ | refine S33 ?_ | refine S46 ?_ | refine S65 ?_ | refine S71 ?_)
          refine Scall (args := [pint (w.getD k 0)]) hX ?_
          repeat (first | refine S0 ?_ | refine S1 ?_ | refine S2 ?_ | refine S3 ?_ | refine S4 ?_ | refine S5 ?_ | refine S6 ?_ | refine S7 ?_ | refine S8 ?_ | refine S9 ?_ | refine S10 ?_ | refine S11 ?_ | refine S13 ?_ | refine S15 ?_ | refine S16 ?_ | refine S19 ?_ | refine S20 ?_ | refine S21 ?_ | refine S22 ?_ | refine S23 ?_ | refine S25 ?_ | refine S26 ?_ | refine S27 ?_ | refine S28 ?_ | refine S29 ?_ | refine S33 ?_ | refine S46 ?_ | refine S65 ?_ | refine S71 ?_)
          exact ⟨k + 1, by omega, by rw [ht]; exact SLx, (by (try dsimp only); repeat' (first | exact HBx | exact SBx | refine And.intro ?_ ?_)), by omega⟩
    · obtain rfl : k = w.length := by omega
      repeat (first | refine S0 ?_ | refine S1 ?_ | refine S2 ?_ | refine S3 ?_ | refine S4 ?_ | refine S5 ?_ | refine S6 ?_ | refine S7 ?_ | refine S8 ?_ | refine S9 ?_ | refine S10 ?_ | refine S11 ?_ | refine S13 ?_ | refine S15 ?_ | refine S16 ?_ | refine S19 ?_ | refine S20 ?_ | refine S21 ?_ | refine S22 ?_ | refine S23 ?_ | refine S25 ?_ | refine S26 ?_ | refine S27 ?_ | refine S28 ?_ | refine S29 ?_ | refine S33 ?_ | refine S46 ?_ | refine S65 ?_ | refine S71 ?_)
      rw [hset]
      exact ⟨s + 1, by omega, SLx, (by (try dsimp only); repeat' (first | exact HBx | exact SBx | refine And.intro ?_ ?_)), by omega⟩
  · obtain rfl : s = n := by omega
    rw [fillT_tab] at B
    repeat (first | refine S0 ?_ | refine S1 ?_ | refine S2 ?_ | refine S3 ?_ | refine S4 ?_ | refine S5 ?_ | refine S6 ?_ | refine S7 ?_ | refine S8 ?_ | refine S9 ?_ | refine S10 ?_ | refine S11 ?_ | refine S13 ?_ | refine S15 ?_ | refine S16 ?_ | refine S19 ?_ | refine S20 ?_ | refine S21 ?_ | refine S22 ?_ | refine S23 ?_ | refine S25 ?_ | refine S26 ?_ | refine S27 ?_ | refine S28 ?_ | refine S29 ?_ | refine S33 ?_ | refine S46 ?_ | refine S65 ?_ | refine S71 ?_)
    exact ⟨.inr rfl, Fz.refI HBx (by first | (simp; done) | (simp; omega)) (by first | rfl | (simp; done))⟩
end Go.Proofs.Ytgjfpmjllpgadaa
