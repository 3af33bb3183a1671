/- Facts and contracts that the claim uses. No condition of its own. -/
import Derived.Test.YtdlpbpfcgjgppaaGJonesStatesBQ
import Derived.Test.YtdlpbpfcgjgppaaGJonesStatesBS
set_option linter.unusedVariables false
set_option linter.unusedSimpArgs false
namespace Go.Proofs.Ytdlpbpfcgjgppaa
open Go.RowKit
structure Wd (n : Nat) (w : List Int) : Prop where
  n9 : n ≤ 6
  len : w.length ≤ 30
  lt : ∀ k, k < w.length → letP n (w.getD k 0)
theorem Wd.of {n : Int} {w : List Int} (h : bF n w = 0) : ∃ m : Nat, n = (m : Int) ∧ 1 ≤ m ∧ Wd m w := by
  obtain ⟨h1, h2, h3⟩ := bF_ok h
  refine ⟨n.toNat, by omega, by omega, by omega, h2, fun k hk => ?_⟩
  rw [show ((n.toNat : Nat) : Int) = n by omega]
  exact h3 _ (by rw [getD_lt 0 hk]; exact List.getElem_mem hk)
end Go.Proofs.Ytdlpbpfcgjgppaa

/- Facts and contracts that the claim uses. No condition of its own. -/
set_option linter.unusedVariables false
set_option linter.unusedSimpArgs false
namespace Go.Proofs.Ytdlpbpfcgjgppaa
open Go.RowKit
def sumTo (w : List Int) : Nat → Int
  | 0 => 0
  | k + 1 => sumTo w k + sgI (w.getD k 0)
theorem sumTo_bd (w : List Int) : ∀ k : Nat, -(k : Int) ≤ sumTo w k ∧ sumTo w k ≤ k
  | 0 => by simp [sumTo]
  | k + 1 => by have := sumTo_bd w k; simp only [sumTo]; unfold sgI; split <;> omega
set_option maxHeartbeats 2000000 in
set_option maxRecDepth 100000 in
theorem bsum_s {n : Nat} {w : List Int} (h : Wd n w) : SC Try.prog 26 [pli w] (pint (sumTo w w.length)) := by
  refine SC.go {} tok mixed Try.func26 rfl rfl Try.ntmps26 rfl rfl (by kernel_rfl) ?_
  first | simp only [updS] | simp only [updL, Nat.reduceAdd]
  have h6 := h.n9
  have hlw := h.len
  repeat (first | refine S0 ?_ | refine S1 ?_ | refine S2 ?_ | refine S4 ?_ | refine S5 ?_ | refine S6 ?_ | refine S7 ?_ | refine S8 ?_ | refine S10 ?_ | refine S11 ?_ | refine S13 ?_ | refine S15 ?_ | refine S16 ?_ | refine S19 ?_ | refine S20 ?_ | refine S21 ?_ | refine S22 ?_ | refine S23 ?_ | refine S25 ?_ | refine S26 ?_ | refine S52 ?_ | refine S75 ?_)
  refine CW.loopS (fun k : Nat => k ≤ w.length) (fun k => [(3, pint (sumTo w k)), (6, pli w), (7, pint w.length), (8, pint k)]) (fun _ _ => True) (fun k => w.length - k) 0 ⟨by omega, SLx, trivial⟩ ?_
  rintro k t hp hk _
  first | simp only [updS] | simp only [updL, Nat.reduceAdd]
  by_cases hk2 : k < w.length
  · have hx := abs_let (h.lt k hk2) (by omega)
    have hb := sumTo_bd w k
    have hs : sumTo w (k + 1) = sumTo w k + sgI (w.getD k 0) := rfl
    obtain ⟨hne, _, _⟩ := h.lt k hk2
    have hX := bindex_s (w.getD k 0) (by omega)
    generalize sumTo w k = S at *
    by_cases c : 0 < w.getD k 0
    · have hv : absI (w.getD k 0) = w.getD k 0 := by omega
      have hq : w.getD k 0 / w.getD k 0 = 1 := Int.ediv_self hne
      have hg : sgI (w.getD k 0) = 1 := by unfold sgI; rw [if_pos c]
      rw [hg] at hs
      rw [hv] at hX
      repeat (first | refine S0 ?_ | refine S1 ?_ | refine S2 ?_ | refine S4 ?_ | refine S5 ?_ | refine S6 ?_ | refine S7 ?_ | refine S8 ?_ | refine S10 ?_ | refine S11 ?_ | refine S13 ?_ | refine S15 ?_ | refine S16 ?_ | refine S19 ?_ | refine S20 ?_ | refine S21 ?_ | refine S22 ?_ | refine S23 ?_ | refine S25 ?_ | refine S26 ?_ | refine S52 ?_ | refine S75 ?_)
      refine Scall (args := [pint (w.getD k 0)]) hX ?_
      repeat (first | refine S0 ?_ | refine S1 ?_ | refine S2 ?_ | refine S4 ?_ | refine S5 ?_ | refine S6 ?_ | refine S7 ?_ | refine S8 ?_ | refine S10 ?_ | refine S11 ?_ | refine S13 ?_ | refine S15 ?_ | refine S16 ?_ | refine S19 ?_ | refine S20 ?_ | refine S21 ?_ | refine S22 ?_ | refine S23 ?_ | refine S25 ?_ | refine S26 ?_ | refine S52 ?_ | refine S75 ?_)
      rw [hq]
      exact ⟨k + 1, by omega, by rw [hs]; exact SLx, trivial, by omega⟩
    · have hv : absI (w.getD k 0) = -(w.getD k 0) := by omega
      have hq : (w.getD k 0).tdiv (-(w.getD k 0)) = -1 := by rw [Int.tdiv_neg, Int.tdiv_self hne]
      have hg : sgI (w.getD k 0) = -1 := by unfold sgI; rw [if_neg c]
      rw [hg] at hs
      rw [hv] at hX
      repeat (first | refine S0 ?_ | refine S1 ?_ | refine S2 ?_ | refine S4 ?_ | refine S5 ?_ | refine S6 ?_ | refine S7 ?_ | refine S8 ?_ | refine S10 ?_ | refine S11 ?_ | refine S13 ?_ | refine S15 ?_ | refine S16 ?_ | refine S19 ?_ | refine S20 ?_ | refine S21 ?_ | refine S22 ?_ | refine S23 ?_ | refine S25 ?_ | refine S26 ?_ | refine S52 ?_ | refine S75 ?_)
      refine Scall (args := [pint (w.getD k 0)]) hX ?_
      repeat (first | refine S0 ?_ | refine S1 ?_ | refine S2 ?_ | refine S4 ?_ | refine S5 ?_ | refine S6 ?_ | refine S7 ?_ | refine S8 ?_ | refine S10 ?_ | refine S11 ?_ | refine S13 ?_ | refine S15 ?_ | refine S16 ?_ | refine S19 ?_ | refine S20 ?_ | refine S21 ?_ | refine S22 ?_ | refine S23 ?_ | refine S25 ?_ | refine S26 ?_ | refine S52 ?_ | refine S75 ?_)
      rw [hq]
      exact ⟨k + 1, by omega, by rw [hs]; exact SLx, trivial, by omega⟩
  · obtain rfl : k = w.length := by omega
    repeat (first | refine S0 ?_ | refine S1 ?_ | refine S2 ?_ | refine S4 ?_ | refine S5 ?_ | refine S6 ?_ | refine S7 ?_ | refine S8 ?_ | refine S10 ?_ | refine S11 ?_ | refine S13 ?_ | refine S15 ?_ | refine S16 ?_ | refine S19 ?_ | refine S20 ?_ | refine S21 ?_ | refine S22 ?_ | refine S23 ?_ | refine S25 ?_ | refine S26 ?_ | refine S52 ?_ | refine S75 ?_)
    exact ⟨.inr rfl, .cl rfl⟩
set_option maxHeartbeats 2000000 in
set_option maxRecDepth 100000 in
theorem weight_s {n : Nat} {w : List Int} (h : Wd n w) : SC Try.prog 10 [pli w] (pint (sumTo w w.length)) := by
  refine SC.go {} tok mixed Try.func10 rfl rfl Try.ntmps10 rfl rfl (by kernel_rfl) ?_
  first | simp only [updS] | simp only [updL, Nat.reduceAdd]
  have h6 := h.n9
  have hlw := h.len
  repeat (first | refine S0 ?_ | refine S1 ?_ | refine S2 ?_ | refine S4 ?_ | refine S5 ?_ | refine S6 ?_ | refine S7 ?_ | refine S8 ?_ | refine S10 ?_ | refine S11 ?_ | refine S13 ?_ | refine S15 ?_ | refine S16 ?_ | refine S19 ?_ | refine S20 ?_ | refine S21 ?_ | refine S22 ?_ | refine S23 ?_ | refine S25 ?_ | refine S26 ?_ | refine S35 ?_ | refine S52 ?_ | refine S54 ?_ | refine S75 ?_)
  refine CW.loopS (fun k : Nat => k ≤ w.length) (fun k => [(3, pint (sumTo w k)), (6, pli w), (7, pint w.length), (8, pint k)]) (fun _ _ => True) (fun k => w.length - k) 0 ⟨by omega, SLx, trivial⟩ ?_
  rintro k t hp hk _
  first | simp only [updS] | simp only [updL, Nat.reduceAdd]
  by_cases hk2 : k < w.length
  · have hx := abs_let (h.lt k hk2) (by omega)
    have hb := sumTo_bd w k
    have hs : sumTo w (k + 1) = sumTo w k + sgI (w.getD k 0) := rfl
    obtain ⟨hne, _, _⟩ := h.lt k hk2
    generalize sumTo w k = S at *
    by_cases c : 0 < w.getD k 0
    · have hv : absI (w.getD k 0) = w.getD k 0 := by omega
      have hq : w.getD k 0 / w.getD k 0 = 1 := Int.ediv_self hne
      have hg : sgI (w.getD k 0) = 1 := by unfold sgI; rw [if_pos c]
      rw [hg] at hs
      have hm : (if w.getD k 0 < -(w.getD k 0) then -(w.getD k 0) else w.getD k 0) = w.getD k 0 := hv
      have hq2 : w.getD k 0 / (if w.getD k 0 < -(w.getD k 0) then -(w.getD k 0) else w.getD k 0) = 1 := by rw [hm]; exact Int.ediv_self hne
      repeat (first | refine S0 ?_ | refine S1 ?_ | refine S2 ?_ | refine S4 ?_ | refine S5 ?_ | refine S6 ?_ | refine S7 ?_ | refine S8 ?_ | refine S10 ?_ | refine S11 ?_ | refine S13 ?_ | refine S15 ?_ | refine S16 ?_ | refine S19 ?_ | refine S20 ?_ | refine S21 ?_ | refine S22 ?_ | refine S23 ?_ | refine S25 ?_ | refine S26 ?_ | refine S35 ?_ | refine S52 ?_ | refine S54 ?_ | refine S75 ?_)
      rw [hq2]
      exact ⟨k + 1, by omega, by rw [hs]; exact SLx, trivial, by omega⟩
    · have hv : absI (w.getD k 0) = -(w.getD k 0) := by omega
      have hq : (w.getD k 0).tdiv (-(w.getD k 0)) = -1 := by rw [Int.tdiv_neg, Int.tdiv_self hne]
      have hg : sgI (w.getD k 0) = -1 := by unfold sgI; rw [if_neg c]
      rw [hg] at hs
      have hm : (if w.getD k 0 < -(w.getD k 0) then -(w.getD k 0) else w.getD k 0) = -(w.getD k 0) := hv
      have hq2 : (w.getD k 0).tdiv (if w.getD k 0 < -(w.getD k 0) then -(w.getD k 0) else w.getD k 0) = -1 := by rw [hm]; exact hq
      repeat (first | refine S0 ?_ | refine S1 ?_ | refine S2 ?_ | refine S4 ?_ | refine S5 ?_ | refine S6 ?_ | refine S7 ?_ | refine S8 ?_ | refine S10 ?_ | refine S11 ?_ | refine S13 ?_ | refine S15 ?_ | refine S16 ?_ | refine S19 ?_ | refine S20 ?_ | refine S21 ?_ | refine S22 ?_ | refine S23 ?_ | refine S25 ?_ | refine S26 ?_ | refine S35 ?_ | refine S52 ?_ | refine S54 ?_ | refine S75 ?_)
      rw [hq2]
      exact ⟨k + 1, by omega, by rw [hs]; exact SLx, trivial, by omega⟩
  · obtain rfl : k = w.length := by omega
    repeat (first | refine S0 ?_ | refine S1 ?_ | refine S2 ?_ | refine S4 ?_ | refine S5 ?_ | refine S6 ?_ | refine S7 ?_ | refine S8 ?_ | refine S10 ?_ | refine S11 ?_ | refine S13 ?_ | refine S15 ?_ | refine S16 ?_ | refine S19 ?_ | refine S20 ?_ | refine S21 ?_ | refine S22 ?_ | refine S23 ?_ | refine S25 ?_ | refine S26 ?_ | refine S35 ?_ | refine S52 ?_ | refine S54 ?_ | refine S75 ?_)
    exact ⟨.inr rfl, .cl rfl⟩
end Go.Proofs.Ytdlpbpfcgjgppaa

/- Facts and contracts that the claim uses. No condition of its own. -/
set_option linter.unusedVariables false
set_option linter.unusedSimpArgs false
namespace Go.Proofs.Ytdlpbpfcgjgppaa
open Go.RowKit
theorem lett_of {n : Nat} {w : List Int} (h : Wd n w) : lett n w := fun x hx => by
  obtain ⟨i, hi, rfl⟩ := List.getElem_of_mem hx
  have := h.lt i hi
  rw [getD_lt 0 hi] at this
  unfold letP at this
  omega
noncomputable def jnB (n : Nat) (w : List Int) : LP := sumE (fun D => dpow (clD n D - 1)) (stS n w w.length)
theorem jnB_sup {n : Nat} {w : List Int} (hn : 1 ≤ n ∧ n ≤ 6) (hw : lett n w) : Sup ((37 * w.length + 24 : Nat) : Int) (jnB n w) :=
  sumE_sup (stS_sup hn.2 w hw _ (Nat.le_refl _)) fun e he => by
    have := clD_bd hn.1 (stS_vd w hw _ (Nat.le_refl _) e he)
    exact (dpow_sup _).mono (by omega)
noncomputable def jnF (n : Int) (w : List Int) : Int := if bF n w ≠ 0 then bF n w else if 12 < w.length then 2 else 0
theorem jnF_cases (n : Int) (w : List Int) : (bF n w ≠ 0 ∧ jnF n w = bF n w) ∨ (bF n w = 0 ∧ 12 < w.length ∧ jnF n w = 2) ∨ (bF n w = 0 ∧ ¬ 12 < w.length ∧ jnF n w = 0) := by
  unfold jnF
  by_cases h0 : bF n w ≠ 0
  · exact .inl ⟨h0, if_pos h0⟩
  · by_cases h1 : 12 < w.length
    · exact .inr (.inl ⟨by omega, h1, by rw [if_neg h0, if_pos h1]⟩)
    · exact .inr (.inr ⟨by omega, h1, by rw [if_neg h0, if_neg h1]⟩)
def jnC (s : Int) : Int := if s % 2 = 0 then 1 else -1
noncomputable def jnP (n : Nat) (w : List Int) : LP := jnB n w * LP.mono (jnC (sumTo w w.length)) (-3 * sumTo w w.length)
set_option maxHeartbeats 8000000 in
set_option maxRecDepth 100000 in
theorem jbrk_s (n : Int) (w : List Int) : SC Try.prog 5 [pint n, pli w] (.tup [ppo (if jnF n w = 0 then poW (jnB n.toNat w) else (0, [])), pint (jnF n w)]) := by
  have kc := bcheck_s n w
  refine SC.go {} tok mixed Try.func5 rfl rfl Try.ntmps5 rfl rfl (by kernel_rfl) ?_
  first | simp only [updS] | simp only [updL, Nat.reduceAdd]
  repeat (first | refine S0 ?_ | refine S1 ?_ | refine S2 ?_ | refine S5 ?_ | refine S7 ?_ | refine S8 ?_ | refine S9 ?_ | refine S15 ?_ | refine S16 ?_ | refine S19 ?_ | refine S20 ?_ | refine S23 ?_ | refine S29 ?_ | refine S30 ?_ | refine S66 ?_ | refine S68 ?_ | refine S69 ?_)
  refine Scall (args := [pint n, pli w]) kc ?_
  have hb1 : 0 ≤ bF n w ∧ bF n w ≤ 3 := by unfold bF; repeat' split
                                           all_goals omega
  rcases jnF_cases n w with ⟨h0, e⟩ | ⟨h0, h1, e⟩ | ⟨h0, h1, e⟩
  · rw [e, if_neg h0]
    generalize bF n w = f at *
    repeat (first | refine S0 ?_ | refine S1 ?_ | refine S2 ?_ | refine S5 ?_ | refine S7 ?_ | refine S8 ?_ | refine S9 ?_ | refine S15 ?_ | refine S16 ?_ | refine S19 ?_ | refine S20 ?_ | refine S23 ?_ | refine S29 ?_ | refine S30 ?_ | refine S66 ?_ | refine S68 ?_ | refine S69 ?_)
    exact ⟨.inr rfl, FR.cellTmp rfl HBx rfl rfl rfl (Fz.pair (.nrm rfl) (.cl rfl))⟩
  · rw [e, h0, if_neg (by omega)]
    repeat (first | refine S0 ?_ | refine S1 ?_ | refine S2 ?_ | refine S5 ?_ | refine S7 ?_ | refine S8 ?_ | refine S9 ?_ | refine S15 ?_ | refine S16 ?_ | refine S19 ?_ | refine S20 ?_ | refine S23 ?_ | refine S29 ?_ | refine S30 ?_ | refine S66 ?_ | refine S68 ?_ | refine S69 ?_)
    exact ⟨.inr rfl, FR.cellTmp rfl HBx rfl rfl rfl (Fz.pair (.nrm rfl) (.cl rfl))⟩
  · rw [e, h0, if_pos rfl]
    obtain ⟨N, rfl, hN, hW⟩ := Wd.of h0
    have kb := bracket_s (n := N) ⟨hN, hW.n9⟩ (lett_of hW) (by omega)
    rw [show sumE (fun D => dpow (clD N D - 1)) (stS N w w.length) = jnB N w from rfl] at kb
    rw [Int.toNat_natCast]
    repeat (first | refine S0 ?_ | refine S1 ?_ | refine S2 ?_ | refine S5 ?_ | refine S7 ?_ | refine S8 ?_ | refine S9 ?_ | refine S15 ?_ | refine S16 ?_ | refine S19 ?_ | refine S20 ?_ | refine S23 ?_ | refine S29 ?_ | refine S30 ?_ | refine S66 ?_ | refine S68 ?_ | refine S69 ?_)
    refine Scall (args := [pint N, pli w]) kb ?_
    repeat (first | refine S0 ?_ | refine S1 ?_ | refine S2 ?_ | refine S5 ?_ | refine S7 ?_ | refine S8 ?_ | refine S9 ?_ | refine S15 ?_ | refine S16 ?_ | refine S19 ?_ | refine S20 ?_ | refine S23 ?_ | refine S29 ?_ | refine S30 ?_ | refine S66 ?_ | refine S68 ?_ | refine S69 ?_)
    exact ⟨.inr rfl, FR.cellTmp rfl HBx rfl rfl rfl (Fz.pair (.cl (by simp only [PV.cl, PV.cl.clL, pint_cl, pli_cl, Bool.and_self])) (.cl rfl))⟩
set_option maxHeartbeats 8000000 in
set_option maxRecDepth 100000 in
theorem jpol_s (n : Int) (w : List Int) : SC Try.prog 8 [pint n, pli w] (.tup [ppo (if jnF n w = 0 then poW (jnP n.toNat w) else (0, [])), pint (jnF n w)]) := by
  have kb := jbrk_s n w
  have hb1 : 0 ≤ bF n w ∧ bF n w ≤ 3 := by unfold bF; repeat' split
                                           all_goals omega
  refine SC.go {} tok mixed Try.func8 rfl rfl Try.ntmps8 rfl rfl (by kernel_rfl) ?_
  first | simp only [updS] | simp only [updL, Nat.reduceAdd]
  repeat (first | refine S0 ?_ | refine S1 ?_ | refine S2 ?_ | refine S3 ?_ | refine S5 ?_ | refine S7 ?_ | refine S8 ?_ | refine S9 ?_ | refine S15 ?_ | refine S16 ?_ | refine S19 ?_ | refine S20 ?_ | refine S29 ?_ | refine S34 ?_ | refine S48 ?_ | refine S51 ?_ | refine S66 ?_ | refine S68 ?_ | refine S69 ?_ | refine S76 ?_)
  refine Scall (args := [pint n, pli w]) kb ?_
  by_cases h : jnF n w = 0
  · rw [if_pos h, if_pos h, h]
    rcases jnF_cases n w with ⟨h0, e⟩ | ⟨h0, h1, e⟩ | ⟨h0, h1, e⟩
    · exact absurd (e.symm.trans h) h0
    · rw [h] at e; cases e
    obtain ⟨N, rfl, hN, hW⟩ := Wd.of h0
    have ks := bsum_s hW
    have hsb := sumTo_bd w w.length
    have hsup := jnB_sup (n := N) ⟨hN, hW.n9⟩ (lett_of hW)
    rw [Int.toNat_natCast]
    have e2 : jnP N w = jnB N w * LP.mono (jnC (sumTo w w.length)) (-3 * sumTo w w.length) := rfl
    rw [e2]
    generalize sumTo w w.length = s at *
    have kt := termW_s (jnC s) (-3 * s) (by unfold jnC in64; split <;> omega) (by omega)
    have km := timesW_s (jnB N w) (LP.mono (jnC s) (-3 * s)) (hsup.mono (by omega)) (Sup.monom _ _ (by omega))
    generalize jnB N w = B at *
    repeat (first | refine S0 ?_ | refine S1 ?_ | refine S2 ?_ | refine S3 ?_ | refine S5 ?_ | refine S7 ?_ | refine S8 ?_ | refine S9 ?_ | refine S15 ?_ | refine S16 ?_ | refine S19 ?_ | refine S20 ?_ | refine S29 ?_ | refine S34 ?_ | refine S48 ?_ | refine S51 ?_ | refine S66 ?_ | refine S68 ?_ | refine S69 ?_ | refine S76 ?_)
    refine Scall (args := [pli w]) ks ?_
    have h31 : 3 % 2 = 1 := rfl
    have hev : s.tmod 2 = 0 ↔ s % 2 = 0 := by rw [← Int.dvd_iff_tmod_eq_zero, Int.dvd_iff_emod_eq_zero]
    repeat (first | refine S0 ?_ | refine S1 ?_ | refine S2 ?_ | refine S3 ?_ | refine S5 ?_ | refine S7 ?_ | refine S8 ?_ | refine S9 ?_ | refine S15 ?_ | refine S16 ?_ | refine S19 ?_ | refine S20 ?_ | refine S29 ?_ | refine S34 ?_ | refine S48 ?_ | refine S51 ?_ | refine S66 ?_ | refine S68 ?_ | refine S69 ?_ | refine S76 ?_)
    by_cases hs : s.tmod 2 = 0
    · have ej : jnC s = 1 := if_pos (hev.1 hs)
      rw [ej] at kt km
      rw [ej, show (!decide (s.tmod 2 = 0)) = false by simp [hs]]
      repeat (first | refine S0 ?_ | refine S1 ?_ | refine S2 ?_ | refine S3 ?_ | refine S5 ?_ | refine S7 ?_ | refine S8 ?_ | refine S9 ?_ | refine S15 ?_ | refine S16 ?_ | refine S19 ?_ | refine S20 ?_ | refine S29 ?_ | refine S34 ?_ | refine S48 ?_ | refine S51 ?_ | refine S66 ?_ | refine S68 ?_ | refine S69 ?_ | refine S76 ?_)
      refine Scall (args := [pint (1), pint (-3 * s)]) kt ?_
      repeat (first | refine S0 ?_ | refine S1 ?_ | refine S2 ?_ | refine S3 ?_ | refine S5 ?_ | refine S7 ?_ | refine S8 ?_ | refine S9 ?_ | refine S15 ?_ | refine S16 ?_ | refine S19 ?_ | refine S20 ?_ | refine S29 ?_ | refine S34 ?_ | refine S48 ?_ | refine S51 ?_ | refine S66 ?_ | refine S68 ?_ | refine S69 ?_ | refine S76 ?_)
      refine Scall (args := [ppo (poW B), ppo (poW (LP.mono (1) (-3 * s)))]) km ?_
      repeat (first | refine S0 ?_ | refine S1 ?_ | refine S2 ?_ | refine S3 ?_ | refine S5 ?_ | refine S7 ?_ | refine S8 ?_ | refine S9 ?_ | refine S15 ?_ | refine S16 ?_ | refine S19 ?_ | refine S20 ?_ | refine S29 ?_ | refine S34 ?_ | refine S48 ?_ | refine S51 ?_ | refine S66 ?_ | refine S68 ?_ | refine S69 ?_ | refine S76 ?_)
      exact ⟨.inr rfl, FR.cellTmp rfl HBx rfl rfl rfl (Fz.pair (.cl (by simp only [PV.cl, PV.cl.clL, pint_cl, pli_cl, Bool.and_self])) (.cl rfl))⟩
    · have ej : jnC s = -1 := if_neg (fun h => hs (hev.2 h))
      rw [ej] at kt km
      rw [ej, show (!decide (s.tmod 2 = 0)) = true by simp [hs]]
      repeat (first | refine S0 ?_ | refine S1 ?_ | refine S2 ?_ | refine S3 ?_ | refine S5 ?_ | refine S7 ?_ | refine S8 ?_ | refine S9 ?_ | refine S15 ?_ | refine S16 ?_ | refine S19 ?_ | refine S20 ?_ | refine S29 ?_ | refine S34 ?_ | refine S48 ?_ | refine S51 ?_ | refine S66 ?_ | refine S68 ?_ | refine S69 ?_ | refine S76 ?_)
      refine Scall (args := [pint (-1), pint (-3 * s)]) kt ?_
      repeat (first | refine S0 ?_ | refine S1 ?_ | refine S2 ?_ | refine S3 ?_ | refine S5 ?_ | refine S7 ?_ | refine S8 ?_ | refine S9 ?_ | refine S15 ?_ | refine S16 ?_ | refine S19 ?_ | refine S20 ?_ | refine S29 ?_ | refine S34 ?_ | refine S48 ?_ | refine S51 ?_ | refine S66 ?_ | refine S68 ?_ | refine S69 ?_ | refine S76 ?_)
      refine Scall (args := [ppo (poW B), ppo (poW (LP.mono (-1) (-3 * s)))]) km ?_
      repeat (first | refine S0 ?_ | refine S1 ?_ | refine S2 ?_ | refine S3 ?_ | refine S5 ?_ | refine S7 ?_ | refine S8 ?_ | refine S9 ?_ | refine S15 ?_ | refine S16 ?_ | refine S19 ?_ | refine S20 ?_ | refine S29 ?_ | refine S34 ?_ | refine S48 ?_ | refine S51 ?_ | refine S66 ?_ | refine S68 ?_ | refine S69 ?_ | refine S76 ?_)
      exact ⟨.inr rfl, FR.cellTmp rfl HBx rfl rfl rfl (Fz.pair (.cl (by simp only [PV.cl, PV.cl.clL, pint_cl, pli_cl, Bool.and_self])) (.cl rfl))⟩
  · rw [if_neg h, if_neg h]
    have hf : 0 ≤ jnF n w ∧ jnF n w ≤ 3 := by rcases jnF_cases n w with ⟨_, e⟩ | ⟨_, _, e⟩ | ⟨_, _, e⟩ <;> rw [e] <;> omega
    generalize jnF n w = f at *
    repeat (first | refine S0 ?_ | refine S1 ?_ | refine S2 ?_ | refine S3 ?_ | refine S5 ?_ | refine S7 ?_ | refine S8 ?_ | refine S9 ?_ | refine S15 ?_ | refine S16 ?_ | refine S19 ?_ | refine S20 ?_ | refine S29 ?_ | refine S34 ?_ | refine S48 ?_ | refine S51 ?_ | refine S66 ?_ | refine S68 ?_ | refine S69 ?_ | refine S76 ?_)
    exact ⟨.inr rfl, FR.cellTmp rfl HBx rfl rfl rfl (Fz.pair (.nrm rfl) (.cl rfl))⟩
end Go.Proofs.Ytdlpbpfcgjgppaa
