/- Facts and contracts that the claim uses. No condition of its own. -/
import Derived.Test.YtkmkcbkfakoomaaGRingRowsBW
import Derived.Test.YtkmkcbkfakoomaaGRingRowsBX
import Derived.Test.YtkmkcbkfakoomaaGRingRowsBY
set_option linter.unusedVariables false
set_option linter.unusedSimpArgs false
namespace Go.Proofs.Ytkmkcbkfakoomaa
open Go.RowKit
theorem bnumber_s {n : Nat} {r : List Int} (h : Rw n r) (hn : n ≤ 9) : SC Try.prog 13 [pli r] (pint (rank r)) := by
  obtain ⟨F, hF, rfl⟩ := h
  have hp := hF.isP.pm
  rw [← number_rank hp.rng hp.nd]
  exact SC.ofI (Rw.bd ⟨F, hF, rfl⟩ hn) (callable Try.func13 rfl rfl) fun Z w A cap h => (number_c A cap _ w h hp.rng hp.nd (by rw [tab_len]; exact hn)).mono fun e w' ⟨h1, h2⟩ => ⟨_, h1, .sc _, h2⟩
def mB (ks : List Int) : MF := fun x => if x ∈ ks then some (.bool true) else none
theorem mB_app (ks : List Int) (y : Int) : mB (ks ++ [y]) = fun x => if x = y then some (.bool true) else mB ks x := by
  funext x
  unfold mB
  by_cases e : x = y
  · rw [if_pos e, if_pos (by simp [e])]
  · rw [if_neg e]
    by_cases hm : x ∈ ks
    · rw [if_pos (by simp [hm]), if_pos hm]
    · rw [if_neg (by simp [hm, e]), if_neg hm]
set_option maxHeartbeats 8000000 in
set_option maxRecDepth 100000 in
theorem ringRows_bad {n : Int} {l : List Int} (h0 : chE n l ≠ 0) : SC Try.prog 3 [pint n, pli l] (.sc (.bool true)) := by
  have k1 := cfault_s n l
  have k2 := rcheck_s n l
  have k3 := Rows_bad h0
  have k4 := istrue_bad h0
  have k5 := lead_bad h0
  generalize chE n l = E at *
  have hnil : ([] : List Int).length = 0 := rfl
  refine SC.go {} tok mixed Try.func3 rfl rfl Try.ntmps3 rfl rfl (by kernel_rfl) ?_
  first | simp only [updS] | simp only [updL, Nat.reduceAdd]
  repeat (first | refine S0 ?_ | refine S1 ?_ | refine S2 ?_ | refine S5 ?_ | refine S7 ?_ | refine S8 ?_ | refine S9 ?_ | refine S15 ?_ | refine S16 ?_ | refine S19 ?_ | refine S20 ?_ | refine S22 ?_ | refine S23 ?_ | refine S28 ?_ | refine S29 ?_ | refine S34 ?_ | refine S36 ?_ | refine S37 ?_ | refine S38 ?_ | refine S40 ?_ | refine S41 ?_)
  refine Scall (args := [pint n, pli l]) k1 ?_
  repeat (first | refine S0 ?_ | refine S1 ?_ | refine S2 ?_ | refine S5 ?_ | refine S7 ?_ | refine S8 ?_ | refine S9 ?_ | refine S15 ?_ | refine S16 ?_ | refine S19 ?_ | refine S20 ?_ | refine S22 ?_ | refine S23 ?_ | refine S28 ?_ | refine S29 ?_ | refine S34 ?_ | refine S36 ?_ | refine S37 ?_ | refine S38 ?_ | refine S40 ?_ | refine S41 ?_)
  refine Scall (args := []) rung_s ?_
  repeat (first | refine S0 ?_ | refine S1 ?_ | refine S2 ?_ | refine S5 ?_ | refine S7 ?_ | refine S8 ?_ | refine S9 ?_ | refine S15 ?_ | refine S16 ?_ | refine S19 ?_ | refine S20 ?_ | refine S22 ?_ | refine S23 ?_ | refine S28 ?_ | refine S29 ?_ | refine S34 ?_ | refine S36 ?_ | refine S37 ?_ | refine S38 ?_ | refine S40 ?_ | refine S41 ?_)
  refine Scall (args := [pint n, pli l]) k2 ?_
  repeat (first | refine S0 ?_ | refine S1 ?_ | refine S2 ?_ | refine S5 ?_ | refine S7 ?_ | refine S8 ?_ | refine S9 ?_ | refine S15 ?_ | refine S16 ?_ | refine S19 ?_ | refine S20 ?_ | refine S22 ?_ | refine S23 ?_ | refine S28 ?_ | refine S29 ?_ | refine S34 ?_ | refine S36 ?_ | refine S37 ?_ | refine S38 ?_ | refine S40 ?_ | refine S41 ?_)
  refine Scall (args := [pint n, pli l]) k3 ?_
  repeat (first | refine S0 ?_ | refine S1 ?_ | refine S2 ?_ | refine S5 ?_ | refine S7 ?_ | refine S8 ?_ | refine S9 ?_ | refine S15 ?_ | refine S16 ?_ | refine S19 ?_ | refine S20 ?_ | refine S22 ?_ | refine S23 ?_ | refine S28 ?_ | refine S29 ?_ | refine S34 ?_ | refine S36 ?_ | refine S37 ?_ | refine S38 ?_ | refine S40 ?_ | refine S41 ?_)
  refine Scall (args := [pint n, pli l]) k4 ?_
  repeat (first | refine S0 ?_ | refine S1 ?_ | refine S2 ?_ | refine S5 ?_ | refine S7 ?_ | refine S8 ?_ | refine S9 ?_ | refine S15 ?_ | refine S16 ?_ | refine S19 ?_ | refine S20 ?_ | refine S22 ?_ | refine S23 ?_ | refine S28 ?_ | refine S29 ?_ | refine S34 ?_ | refine S36 ?_ | refine S37 ?_ | refine S38 ?_ | refine S40 ?_ | refine S41 ?_)
  refine Scall (args := [pint n, pli l]) k5 ?_
  repeat (first | refine S0 ?_ | refine S1 ?_ | refine S2 ?_ | refine S5 ?_ | refine S7 ?_ | refine S8 ?_ | refine S9 ?_ | refine S15 ?_ | refine S16 ?_ | refine S19 ?_ | refine S20 ?_ | refine S22 ?_ | refine S23 ?_ | refine S28 ?_ | refine S29 ?_ | refine S34 ?_ | refine S36 ?_ | refine S37 ?_ | refine S38 ?_ | refine S40 ?_ | refine S41 ?_)
  exact ⟨.inr rfl, .cl rfl⟩
set_option maxHeartbeats 8000000 in
set_option maxRecDepth 100000 in
theorem ringRows_long {n : Int} {l : List Int} (h0 : chE n l = 0) (hl : 200 < l.length) : SC Try.prog 3 [pint n, pli l] (.sc (.bool true)) := by
  have k1 := cfault_s n l
  have k2 := rcheck_s n l
  rw [h0] at k1 k2
  refine SC.go {} tok mixed Try.func3 rfl rfl Try.ntmps3 rfl rfl (by kernel_rfl) ?_
  first | simp only [updS] | simp only [updL, Nat.reduceAdd]
  repeat (first | refine S0 ?_ | refine S1 ?_ | refine S2 ?_ | refine S7 ?_ | refine S8 ?_ | refine S9 ?_ | refine S15 ?_ | refine S19 ?_ | refine S20 ?_ | refine S23 ?_ | refine S28 ?_ | refine S29 ?_ | refine S30 ?_ | refine S36 ?_ | refine S37 ?_ | refine S40 ?_ | refine S41 ?_)
  refine Scall (args := [pint n, pli l]) k1 ?_
  repeat (first | refine S0 ?_ | refine S1 ?_ | refine S2 ?_ | refine S7 ?_ | refine S8 ?_ | refine S9 ?_ | refine S15 ?_ | refine S19 ?_ | refine S20 ?_ | refine S23 ?_ | refine S28 ?_ | refine S29 ?_ | refine S30 ?_ | refine S36 ?_ | refine S37 ?_ | refine S40 ?_ | refine S41 ?_)
  refine Scall (args := []) rung_s ?_
  repeat (first | refine S0 ?_ | refine S1 ?_ | refine S2 ?_ | refine S7 ?_ | refine S8 ?_ | refine S9 ?_ | refine S15 ?_ | refine S19 ?_ | refine S20 ?_ | refine S23 ?_ | refine S28 ?_ | refine S29 ?_ | refine S30 ?_ | refine S36 ?_ | refine S37 ?_ | refine S40 ?_ | refine S41 ?_)
  refine Scall (args := [pint n, pli l]) k2 ?_
  repeat (first | refine S0 ?_ | refine S1 ?_ | refine S2 ?_ | refine S7 ?_ | refine S8 ?_ | refine S9 ?_ | refine S15 ?_ | refine S19 ?_ | refine S20 ?_ | refine S23 ?_ | refine S28 ?_ | refine S29 ?_ | refine S30 ?_ | refine S36 ?_ | refine S37 ?_ | refine S40 ?_ | refine S41 ?_)
  refine Scall (args := []) rung_s ?_
  repeat (first | refine S0 ?_ | refine S1 ?_ | refine S2 ?_ | refine S7 ?_ | refine S8 ?_ | refine S9 ?_ | refine S15 ?_ | refine S19 ?_ | refine S20 ?_ | refine S23 ?_ | refine S28 ?_ | refine S29 ?_ | refine S30 ?_ | refine S36 ?_ | refine S37 ?_ | refine S40 ?_ | refine S41 ?_)
  refine Scall (args := [pint n, pli l]) k2 ?_
  repeat (first | refine S0 ?_ | refine S1 ?_ | refine S2 ?_ | refine S7 ?_ | refine S8 ?_ | refine S9 ?_ | refine S15 ?_ | refine S19 ?_ | refine S20 ?_ | refine S23 ?_ | refine S28 ?_ | refine S29 ?_ | refine S30 ?_ | refine S36 ?_ | refine S37 ?_ | refine S40 ?_ | refine S41 ?_)
  exact ⟨.inr rfl, .cl rfl⟩
set_option maxHeartbeats 8000000 in
set_option maxRecDepth 100000 in
theorem ringRows_ok {n : Nat} {l : List Int} (h0 : chE n l = 0) (hl : l.length ≤ 200) : SC Try.prog 3 [pint n, pli l] (.sc (.bool true)) := by
  have k1 := cfault_s n l
  have k2 := rcheck_s n l
  have k3 := Rows_ok h0
  have k4 := istrue_ok h0
  have k5 := lead_ok h0
  rw [h0] at k1 k2
  obtain ⟨h1, h2, h3, h4⟩ := chE_ok h0
  rw [Int.toNat_natCast] at h4
  have kr := row_s n (by omega)
  refine SC.go { mt := [93] } tok mixed Try.func3 rfl rfl Try.ntmps3 rfl rfl (by kernel_rfl) ?_
  first | simp only [updS] | simp only [updL, Nat.reduceAdd]
  repeat (first | refine S0 ?_ | refine S1 ?_ | refine S2 ?_ | refine S4 ?_ | refine S5 ?_ | refine S6 ?_ | refine S7 ?_ | refine S8 ?_ | refine S10 ?_ | refine S11 ?_ | refine S13 ?_ | refine S15 ?_ | refine S16 ?_ | refine S19 ?_ | refine S20 ?_ | refine S21 ?_ | refine S22 ?_ | refine S23 ?_ | refine S25 ?_ | refine S26 ?_ | refine S28 ?_ | refine S29 ?_ | refine S30 ?_ | refine S34 ?_ | refine S36 ?_ | refine S37 ?_ | refine S38 ?_ | refine S40 ?_ | refine S41 ?_ | refine S49 ?_ | refine S50 ?_ | refine S63 ?_ | refine S77 ?_ | refine S80 ?_ | refine S81 ?_ | refine S84 ?_)
  refine Scall (args := [pint n, pli l]) k1 ?_
  repeat (first | refine S0 ?_ | refine S1 ?_ | refine S2 ?_ | refine S4 ?_ | refine S5 ?_ | refine S6 ?_ | refine S7 ?_ | refine S8 ?_ | refine S10 ?_ | refine S11 ?_ | refine S13 ?_ | refine S15 ?_ | refine S16 ?_ | refine S19 ?_ | refine S20 ?_ | refine S21 ?_ | refine S22 ?_ | refine S23 ?_ | refine S25 ?_ | refine S26 ?_ | refine S28 ?_ | refine S29 ?_ | refine S30 ?_ | refine S34 ?_ | refine S36 ?_ | refine S37 ?_ | refine S38 ?_ | refine S40 ?_ | refine S41 ?_ | refine S49 ?_ | refine S50 ?_ | refine S63 ?_ | refine S77 ?_ | refine S80 ?_ | refine S81 ?_ | refine S84 ?_)
  refine Scall (args := []) rung_s ?_
  repeat (first | refine S0 ?_ | refine S1 ?_ | refine S2 ?_ | refine S4 ?_ | refine S5 ?_ | refine S6 ?_ | refine S7 ?_ | refine S8 ?_ | refine S10 ?_ | refine S11 ?_ | refine S13 ?_ | refine S15 ?_ | refine S16 ?_ | refine S19 ?_ | refine S20 ?_ | refine S21 ?_ | refine S22 ?_ | refine S23 ?_ | refine S25 ?_ | refine S26 ?_ | refine S28 ?_ | refine S29 ?_ | refine S30 ?_ | refine S34 ?_ | refine S36 ?_ | refine S37 ?_ | refine S38 ?_ | refine S40 ?_ | refine S41 ?_ | refine S49 ?_ | refine S50 ?_ | refine S63 ?_ | refine S77 ?_ | refine S80 ?_ | refine S81 ?_ | refine S84 ?_)
  refine Scall (args := [pint n, pli l]) k2 ?_
  repeat (first | refine S0 ?_ | refine S1 ?_ | refine S2 ?_ | refine S4 ?_ | refine S5 ?_ | refine S6 ?_ | refine S7 ?_ | refine S8 ?_ | refine S10 ?_ | refine S11 ?_ | refine S13 ?_ | refine S15 ?_ | refine S16 ?_ | refine S19 ?_ | refine S20 ?_ | refine S21 ?_ | refine S22 ?_ | refine S23 ?_ | refine S25 ?_ | refine S26 ?_ | refine S28 ?_ | refine S29 ?_ | refine S30 ?_ | refine S34 ?_ | refine S36 ?_ | refine S37 ?_ | refine S38 ?_ | refine S40 ?_ | refine S41 ?_ | refine S49 ?_ | refine S50 ?_ | refine S63 ?_ | refine S77 ?_ | refine S80 ?_ | refine S81 ?_ | refine S84 ?_)
  refine Scall (args := [pint n, pli l]) k3 ?_
  repeat (first | refine S0 ?_ | refine S1 ?_ | refine S2 ?_ | refine S4 ?_ | refine S5 ?_ | refine S6 ?_ | refine S7 ?_ | refine S8 ?_ | refine S10 ?_ | refine S11 ?_ | refine S13 ?_ | refine S15 ?_ | refine S16 ?_ | refine S19 ?_ | refine S20 ?_ | refine S21 ?_ | refine S22 ?_ | refine S23 ?_ | refine S25 ?_ | refine S26 ?_ | refine S28 ?_ | refine S29 ?_ | refine S30 ?_ | refine S34 ?_ | refine S36 ?_ | refine S37 ?_ | refine S38 ?_ | refine S40 ?_ | refine S41 ?_ | refine S49 ?_ | refine S50 ?_ | refine S63 ?_ | refine S77 ?_ | refine S80 ?_ | refine S81 ?_ | refine S84 ?_)
  refine Scall (args := [pint n, pli l]) k4 ?_
  repeat (first | refine S0 ?_ | refine S1 ?_ | refine S2 ?_ | refine S4 ?_ | refine S5 ?_ | refine S6 ?_ | refine S7 ?_ | refine S8 ?_ | refine S10 ?_ | refine S11 ?_ | refine S13 ?_ | refine S15 ?_ | refine S16 ?_ | refine S19 ?_ | refine S20 ?_ | refine S21 ?_ | refine S22 ?_ | refine S23 ?_ | refine S25 ?_ | refine S26 ?_ | refine S28 ?_ | refine S29 ?_ | refine S30 ?_ | refine S34 ?_ | refine S36 ?_ | refine S37 ?_ | refine S38 ?_ | refine S40 ?_ | refine S41 ?_ | refine S49 ?_ | refine S50 ?_ | refine S63 ?_ | refine S77 ?_ | refine S80 ?_ | refine S81 ?_ | refine S84 ?_)
  refine Scall (args := [pint n, pli l]) k5 ?_
  repeat (first | refine S0 ?_ | refine S1 ?_ | refine S2 ?_ | refine S4 ?_ | refine S5 ?_ | refine S6 ?_ | refine S7 ?_ | refine S8 ?_ | refine S10 ?_ | refine S11 ?_ | refine S13 ?_ | refine S15 ?_ | refine S16 ?_ | refine S19 ?_ | refine S20 ?_ | refine S21 ?_ | refine S22 ?_ | refine S23 ?_ | refine S25 ?_ | refine S26 ?_ | refine S28 ?_ | refine S29 ?_ | refine S30 ?_ | refine S34 ?_ | refine S36 ?_ | refine S37 ?_ | refine S38 ?_ | refine S40 ?_ | refine S41 ?_ | refine S49 ?_ | refine S50 ?_ | refine S63 ?_ | refine S77 ?_ | refine S80 ?_ | refine S81 ?_ | refine S84 ?_)
  refine Scall (args := [pint n]) kr ?_
  repeat (first | refine S0 ?_ | refine S1 ?_ | refine S2 ?_ | refine S4 ?_ | refine S5 ?_ | refine S6 ?_ | refine S7 ?_ | refine S8 ?_ | refine S10 ?_ | refine S11 ?_ | refine S13 ?_ | refine S15 ?_ | refine S16 ?_ | refine S19 ?_ | refine S20 ?_ | refine S21 ?_ | refine S22 ?_ | refine S23 ?_ | refine S25 ?_ | refine S26 ?_ | refine S28 ?_ | refine S29 ?_ | refine S30 ?_ | refine S34 ?_ | refine S36 ?_ | refine S37 ?_ | refine S38 ?_ | refine S40 ?_ | refine S41 ?_ | refine S49 ?_ | refine S50 ?_ | refine S63 ?_ | refine S77 ?_ | refine S80 ?_ | refine S81 ?_ | refine S84 ?_)
  refine CW.loopS (fun i : Nat × Nat => i.1 ≤ l.length ∧ i.2 % 2 = 0) (fun i => [(1, pli l), (6, .lst true 1 (l.length + 1) ((rowsL n l l.length).map pli)), (8, .sc (.bool (decide (rkL n l l.length).Nodup))), (10, pli (rowN n l l.length)), (12, pli (rowN n l i.1)), (13, .ref i.2 0 1 (i.1 + 1)), (14, .mref 3), (15, .sc (.bool (decide (rkL n l i.1).Nodup))), (95, pli l), (96, pint l.length), (97, pint i.1)])
    (fun i h => (h.blk i.2 = some ((rowsL n l i.1).map pli) ∧ h.sp 3 = some (.map (mB (rkL n l i.1)))) ∧ i.2 < 2 * h.next) (fun i => l.length - i.1) (0, 0) ⟨⟨Nat.zero_le _, rfl⟩, by simp only; rw [show decide (rkL n l 0).Nodup = true from decide_eq_true (by simp [rkL])]; simp only [allS, upd, putA, Nat.reduceEqDiff, ↓reduceIte, pint, and_true, true_and]; push_cast; exact ⟨rfl, rfl, rfl, rfl⟩, ⟨HBx, ?_⟩, (by first | omega | (simp only [HP.tokF, HP.tokT, HP.next_add, HP.next_set, HP.next_kill, HP.next_H0, HP.next_addS, HP.next_setS, HP.next_killS, HP.next_put, HP.next_bump, HP.next_putS]; omega))⟩ ?_
  · rw [show mB (rkL n l 0) = mi fun _ => none from funext fun x => by simp [mB, rkL, mi]]
    exact SBx
  rintro ⟨k, T⟩ t hp ⟨hk, hT2⟩ ⟨⟨hB, hS⟩, hTl⟩
  simp only at hk hT2 hB hS hTl
  first | simp only [updS] | simp only [updL, Nat.reduceAdd]
  by_cases hk2 : k < l.length
  · have hrw := rowN_rw (n := n) l (by omega) (k + 1)
    have hrn : (rowN n l k).length = n := (rowN_rw l (by omega) k).len
    have hgk := h4 (l.getD k 0) (by rw [getD_lt 0 hk2]; exact List.getElem_mem hk2)
    have hglt := gdC_lt hgk (by omega)
    obtain ⟨c, hc⟩ : ∃ c : Nat, l.getD k 0 = c := ⟨(l.getD k 0).toNat, by omega⟩
    have hrs := rring_s (row := rowN n l k) (by omega) (c := c) (by omega) (by have := gdC_adj hgk (by omega); rwa [hc] at this)
    have hrn2 : rng (rowN n l k) c = rowN n l (k + 1) := by show _ = rng (rowN n l k) (l.getD k 0).toNat; rw [hc]; rfl
    rw [hrn2] at hrs
    have kn := bnumber_s hrw (by omega)
    have es := rowsL_succ n l k
    have er := rkL_succ n l k
    have hsl : (rowsL n l k).length = k + 1 := rowsL_len _ _ _
    repeat (first | refine S0 ?_ | refine S1 ?_ | refine S2 ?_ | refine S4 ?_ | refine S5 ?_ | refine S6 ?_ | refine S7 ?_ | refine S8 ?_ | refine S10 ?_ | refine S11 ?_ | refine S13 ?_ | refine S15 ?_ | refine S16 ?_ | refine S19 ?_ | refine S20 ?_ | refine S21 ?_ | refine S22 ?_ | refine S23 ?_ | refine S25 ?_ | refine S26 ?_ | refine S28 ?_ | refine S29 ?_ | refine S30 ?_ | refine S34 ?_ | refine S36 ?_ | refine S37 ?_ | refine S38 ?_ | refine S40 ?_ | refine S41 ?_ | refine S49 ?_ | refine S50 ?_ | refine S63 ?_ | refine S77 ?_ | refine S80 ?_ | refine S81 ?_ | refine S84 ?_)
    rw [hc]
    refine Scall (args := [pli (rowN n l k), pint (c : Nat)]) hrs ?_
    have eN : decide (rkL n l (k + 1)).Nodup = (decide (rkL n l k).Nodup && !decide (rank (rowN n l (k + 1)) ∈ rkL n l k)) := by
      rw [er, not_dec, Bool.eq_iff_iff, Bool.and_eq_true, decide_eq_true_iff, decide_eq_true_iff, decide_eq_true_iff, List.nodup_append]
      constructor
      · rintro ⟨a, _, b⟩
        exact ⟨a, fun hm => b _ hm _ (by simp) rfl⟩
      · rintro ⟨a, b⟩
        exact ⟨a, by simp, fun x hx y hy e => by simp only [List.mem_singleton] at hy; subst hy; exact b (e ▸ hx)⟩
    have eM := mB_app (rkL n l k) (rank (rowN n l (k + 1)))
    rw [← er] at eM
    have hq : mB (rkL n l k) (rank (rowN n l (k + 1))) = if rank (rowN n l (k + 1)) ∈ rkL n l k then some (.bool true) else none := rfl
    rw [show (rowsL n l k ++ [rowN n l (k + 1)]) = rowsL n l (k + 1) from es.symm] at es
    have es2 : (rowsL n l (k + 1)).map pli = (rowsL n l k).map pli ++ [pli (rowN n l (k + 1))] := by rw [rowsL_succ, List.map_append]; rfl
    generalize rank (rowN n l (k + 1)) = q at *
    by_cases hd : (rkL n l k).Nodup
    · rw [decide_eq_true hd, Bool.true_and] at eN
      by_cases hm : q ∈ rkL n l k
      · rw [decide_eq_true hm] at eN
        rw [if_pos hm] at hq
        repeat (first | refine S0 ?_ | refine S1 ?_ | refine S2 ?_ | refine S4 ?_ | refine S5 ?_ | refine S6 ?_ | refine S7 ?_ | refine S8 ?_ | refine S10 ?_ | refine S11 ?_ | refine S13 ?_ | refine S15 ?_ | refine S16 ?_ | refine S19 ?_ | refine S20 ?_ | refine S21 ?_ | refine S22 ?_ | refine S23 ?_ | refine S25 ?_ | refine S26 ?_ | refine S28 ?_ | refine S29 ?_ | refine S30 ?_ | refine S34 ?_ | refine S36 ?_ | refine S37 ?_ | refine S38 ?_ | refine S40 ?_ | refine S41 ?_ | refine S49 ?_ | refine S50 ?_ | refine S63 ?_ | refine S77 ?_ | refine S80 ?_ | refine S81 ?_ | refine S84 ?_)
        rw [decide_eq_true hd]
        repeat (first | refine S0 ?_ | refine S1 ?_ | refine S2 ?_ | refine S4 ?_ | refine S5 ?_ | refine S6 ?_ | refine S7 ?_ | refine S8 ?_ | refine S10 ?_ | refine S11 ?_ | refine S13 ?_ | refine S15 ?_ | refine S16 ?_ | refine S19 ?_ | refine S20 ?_ | refine S21 ?_ | refine S22 ?_ | refine S23 ?_ | refine S25 ?_ | refine S26 ?_ | refine S28 ?_ | refine S29 ?_ | refine S30 ?_ | refine S34 ?_ | refine S36 ?_ | refine S37 ?_ | refine S38 ?_ | refine S40 ?_ | refine S41 ?_ | refine S49 ?_ | refine S50 ?_ | refine S63 ?_ | refine S77 ?_ | refine S80 ?_ | refine S81 ?_ | refine S84 ?_)
        refine Scall (args := [pli (rowN n l (k + 1))]) kn ?_
        repeat (first | refine S0 ?_ | refine S1 ?_ | refine S2 ?_ | refine S4 ?_ | refine S5 ?_ | refine S6 ?_ | refine S7 ?_ | refine S8 ?_ | refine S10 ?_ | refine S11 ?_ | refine S13 ?_ | refine S15 ?_ | refine S16 ?_ | refine S19 ?_ | refine S20 ?_ | refine S21 ?_ | refine S22 ?_ | refine S23 ?_ | refine S25 ?_ | refine S26 ?_ | refine S28 ?_ | refine S29 ?_ | refine S30 ?_ | refine S34 ?_ | refine S36 ?_ | refine S37 ?_ | refine S38 ?_ | refine S40 ?_ | refine S41 ?_ | refine S49 ?_ | refine S50 ?_ | refine S63 ?_ | refine S77 ?_ | refine S80 ?_ | refine S81 ?_ | refine S84 ?_)
        rw [show lkR false (mB (rkL n l k)) (.bool false) q = .sc (.bool true) from by show PV.sc ((mB (rkL n l k) q).getD _) = _; rw [hq]; rfl]
        repeat (first | refine S0 ?_ | refine S1 ?_ | refine S2 ?_ | refine S4 ?_ | refine S5 ?_ | refine S6 ?_ | refine S7 ?_ | refine S8 ?_ | refine S10 ?_ | refine S11 ?_ | refine S13 ?_ | refine S15 ?_ | refine S16 ?_ | refine S19 ?_ | refine S20 ?_ | refine S21 ?_ | refine S22 ?_ | refine S23 ?_ | refine S25 ?_ | refine S26 ?_ | refine S28 ?_ | refine S29 ?_ | refine S30 ?_ | refine S34 ?_ | refine S36 ?_ | refine S37 ?_ | refine S38 ?_ | refine S40 ?_ | refine S41 ?_ | refine S49 ?_ | refine S50 ?_ | refine S63 ?_ | refine S77 ?_ | refine S80 ?_ | refine S81 ?_ | refine S84 ?_)
        refine Scall (args := [pli (rowN n l (k + 1))]) kn ?_
        repeat (first | refine S0 ?_ | refine S1 ?_ | refine S2 ?_ | refine S4 ?_ | refine S5 ?_ | refine S6 ?_ | refine S7 ?_ | refine S8 ?_ | refine S10 ?_ | refine S11 ?_ | refine S13 ?_ | refine S15 ?_ | refine S16 ?_ | refine S19 ?_ | refine S20 ?_ | refine S21 ?_ | refine S22 ?_ | refine S23 ?_ | refine S25 ?_ | refine S26 ?_ | refine S28 ?_ | refine S29 ?_ | refine S30 ?_ | refine S34 ?_ | refine S36 ?_ | refine S37 ?_ | refine S38 ?_ | refine S40 ?_ | refine S41 ?_ | refine S49 ?_ | refine S50 ?_ | refine S63 ?_ | refine S77 ?_ | refine S80 ?_ | refine S81 ?_ | refine S84 ?_)
        refine ⟨(k + 1, hp.tok false), ⟨by simp only; omega, HP.tok_even _⟩, ?_, ⟨?_, ?_⟩, by simp only; omega⟩
        · simp only
          rw [eN]
          exact SLx
        · simp only
          rw [rowsL_succ, eM]
          exact ⟨HBx, SBx⟩
        · exact (by first | omega | (simp only [HP.tokF, HP.tokT, HP.next_add, HP.next_set, HP.next_kill, HP.next_H0, HP.next_addS, HP.next_setS, HP.next_killS, HP.next_put, HP.next_bump, HP.next_putS]; omega))
      · rw [decide_eq_false hm] at eN
        rw [if_neg hm] at hq
        repeat (first | refine S0 ?_ | refine S1 ?_ | refine S2 ?_ | refine S4 ?_ | refine S5 ?_ | refine S6 ?_ | refine S7 ?_ | refine S8 ?_ | refine S10 ?_ | refine S11 ?_ | refine S13 ?_ | refine S15 ?_ | refine S16 ?_ | refine S19 ?_ | refine S20 ?_ | refine S21 ?_ | refine S22 ?_ | refine S23 ?_ | refine S25 ?_ | refine S26 ?_ | refine S28 ?_ | refine S29 ?_ | refine S30 ?_ | refine S34 ?_ | refine S36 ?_ | refine S37 ?_ | refine S38 ?_ | refine S40 ?_ | refine S41 ?_ | refine S49 ?_ | refine S50 ?_ | refine S63 ?_ | refine S77 ?_ | refine S80 ?_ | refine S81 ?_ | refine S84 ?_)
        rw [decide_eq_true hd]
        repeat (first | refine S0 ?_ | refine S1 ?_ | refine S2 ?_ | refine S4 ?_ | refine S5 ?_ | refine S6 ?_ | refine S7 ?_ | refine S8 ?_ | refine S10 ?_ | refine S11 ?_ | refine S13 ?_ | refine S15 ?_ | refine S16 ?_ | refine S19 ?_ | refine S20 ?_ | refine S21 ?_ | refine S22 ?_ | refine S23 ?_ | refine S25 ?_ | refine S26 ?_ | refine S28 ?_ | refine S29 ?_ | refine S30 ?_ | refine S34 ?_ | refine S36 ?_ | refine S37 ?_ | refine S38 ?_ | refine S40 ?_ | refine S41 ?_ | refine S49 ?_ | refine S50 ?_ | refine S63 ?_ | refine S77 ?_ | refine S80 ?_ | refine S81 ?_ | refine S84 ?_)
        refine Scall (args := [pli (rowN n l (k + 1))]) kn ?_
        repeat (first | refine S0 ?_ | refine S1 ?_ | refine S2 ?_ | refine S4 ?_ | refine S5 ?_ | refine S6 ?_ | refine S7 ?_ | refine S8 ?_ | refine S10 ?_ | refine S11 ?_ | refine S13 ?_ | refine S15 ?_ | refine S16 ?_ | refine S19 ?_ | refine S20 ?_ | refine S21 ?_ | refine S22 ?_ | refine S23 ?_ | refine S25 ?_ | refine S26 ?_ | refine S28 ?_ | refine S29 ?_ | refine S30 ?_ | refine S34 ?_ | refine S36 ?_ | refine S37 ?_ | refine S38 ?_ | refine S40 ?_ | refine S41 ?_ | refine S49 ?_ | refine S50 ?_ | refine S63 ?_ | refine S77 ?_ | refine S80 ?_ | refine S81 ?_ | refine S84 ?_)
        rw [show lkR false (mB (rkL n l k)) (.bool false) q = .sc (.bool false) from by show PV.sc ((mB (rkL n l k) q).getD _) = _; rw [hq]; rfl]
        repeat (first | refine S0 ?_ | refine S1 ?_ | refine S2 ?_ | refine S4 ?_ | refine S5 ?_ | refine S6 ?_ | refine S7 ?_ | refine S8 ?_ | refine S10 ?_ | refine S11 ?_ | refine S13 ?_ | refine S15 ?_ | refine S16 ?_ | refine S19 ?_ | refine S20 ?_ | refine S21 ?_ | refine S22 ?_ | refine S23 ?_ | refine S25 ?_ | refine S26 ?_ | refine S28 ?_ | refine S29 ?_ | refine S30 ?_ | refine S34 ?_ | refine S36 ?_ | refine S37 ?_ | refine S38 ?_ | refine S40 ?_ | refine S41 ?_ | refine S49 ?_ | refine S50 ?_ | refine S63 ?_ | refine S77 ?_ | refine S80 ?_ | refine S81 ?_ | refine S84 ?_)
        refine Scall (args := [pli (rowN n l (k + 1))]) kn ?_
        repeat (first | refine S0 ?_ | refine S1 ?_ | refine S2 ?_ | refine S4 ?_ | refine S5 ?_ | refine S6 ?_ | refine S7 ?_ | refine S8 ?_ | refine S10 ?_ | refine S11 ?_ | refine S13 ?_ | refine S15 ?_ | refine S16 ?_ | refine S19 ?_ | refine S20 ?_ | refine S21 ?_ | refine S22 ?_ | refine S23 ?_ | refine S25 ?_ | refine S26 ?_ | refine S28 ?_ | refine S29 ?_ | refine S30 ?_ | refine S34 ?_ | refine S36 ?_ | refine S37 ?_ | refine S38 ?_ | refine S40 ?_ | refine S41 ?_ | refine S49 ?_ | refine S50 ?_ | refine S63 ?_ | refine S77 ?_ | refine S80 ?_ | refine S81 ?_ | refine S84 ?_)
        refine ⟨(k + 1, hp.tok false), ⟨by simp only; omega, HP.tok_even _⟩, ?_, ⟨?_, ?_⟩, by simp only; omega⟩
        · simp only
          rw [eN]
          exact SLx
        · simp only
          rw [rowsL_succ, eM]
          exact ⟨HBx, SBx⟩
        · exact (by first | omega | (simp only [HP.tokF, HP.tokT, HP.next_add, HP.next_set, HP.next_kill, HP.next_H0, HP.next_addS, HP.next_setS, HP.next_killS, HP.next_put, HP.next_bump, HP.next_putS]; omega))
    · rw [decide_eq_false hd, Bool.false_and] at eN
      rw [decide_eq_false hd]
      repeat (first | refine S0 ?_ | refine S1 ?_ | refine S2 ?_ | refine S4 ?_ | refine S5 ?_ | refine S6 ?_ | refine S7 ?_ | refine S8 ?_ | refine S10 ?_ | refine S11 ?_ | refine S13 ?_ | refine S15 ?_ | refine S16 ?_ | refine S19 ?_ | refine S20 ?_ | refine S21 ?_ | refine S22 ?_ | refine S23 ?_ | refine S25 ?_ | refine S26 ?_ | refine S28 ?_ | refine S29 ?_ | refine S30 ?_ | refine S34 ?_ | refine S36 ?_ | refine S37 ?_ | refine S38 ?_ | refine S40 ?_ | refine S41 ?_ | refine S49 ?_ | refine S50 ?_ | refine S63 ?_ | refine S77 ?_ | refine S80 ?_ | refine S81 ?_ | refine S84 ?_)
      refine Scall (args := [pli (rowN n l (k + 1))]) kn ?_
      repeat (first | refine S0 ?_ | refine S1 ?_ | refine S2 ?_ | refine S4 ?_ | refine S5 ?_ | refine S6 ?_ | refine S7 ?_ | refine S8 ?_ | refine S10 ?_ | refine S11 ?_ | refine S13 ?_ | refine S15 ?_ | refine S16 ?_ | refine S19 ?_ | refine S20 ?_ | refine S21 ?_ | refine S22 ?_ | refine S23 ?_ | refine S25 ?_ | refine S26 ?_ | refine S28 ?_ | refine S29 ?_ | refine S30 ?_ | refine S34 ?_ | refine S36 ?_ | refine S37 ?_ | refine S38 ?_ | refine S40 ?_ | refine S41 ?_ | refine S49 ?_ | refine S50 ?_ | refine S63 ?_ | refine S77 ?_ | refine S80 ?_ | refine S81 ?_ | refine S84 ?_)
      refine ⟨(k + 1, hp.tok false), ⟨by simp only; omega, HP.tok_even _⟩, ?_, ⟨?_, ?_⟩, by simp only; omega⟩
      · simp only
        rw [eN]
        exact SLx
      · simp only
        rw [rowsL_succ, eM]
        exact ⟨HBx, SBx⟩
      · exact (by first | omega | (simp only [HP.tokF, HP.tokT, HP.next_add, HP.next_set, HP.next_kill, HP.next_H0, HP.next_addS, HP.next_setS, HP.next_killS, HP.next_put, HP.next_bump, HP.next_putS]; omega))
  · obtain rfl : k = l.length := by omega
    have kl : SC Try.prog 14 [.lst true 1 (l.length + 1) ((rowsL n l l.length).map pli), plls (rowsL n l l.length)] (.sc (.bool true)) := by
      have := lists_g (b1 := true) (b2 := false) (c1 := false) (c2 := false) (a := rowsL n l l.length) (b := rowsL n l l.length) (by rw [rowsL_len]; omega) (by rw [rowsL_len]; omega)
      rw [decide_eq_true rfl, rowsL_len] at this
      unfold plls
      rw [rowsL_len]
      exact this
    have kcl : PV.cl.clL ((rowsL n l l.length).map pli) = true := by have := plls_cl (rowsL n l l.length); simpa [plls, PV.cl] using this
    have ke := equal_s (rowN n l l.length) (rowN n l l.length)
    rw [decide_eq_true rfl] at ke
    generalize decide (rkL n l l.length).Nodup = D at *
    refine CW.freeze 13 (tk := T) (off := 0) (sz := 1) (m := l.length + 1) (v := plls (rowsL n l l.length)) rfl hB (by simp) (by
      unfold plls
      rw [List.drop_zero, Nat.mul_one, List.take_of_length_le (by simp), rowsL_len]) ?_
    repeat (first | refine S0 ?_ | refine S1 ?_ | refine S2 ?_ | refine S4 ?_ | refine S5 ?_ | refine S6 ?_ | refine S7 ?_ | refine S8 ?_ | refine S10 ?_ | refine S11 ?_ | refine S13 ?_ | refine S15 ?_ | refine S16 ?_ | refine S19 ?_ | refine S20 ?_ | refine S21 ?_ | refine S22 ?_ | refine S23 ?_ | refine S25 ?_ | refine S26 ?_ | refine S28 ?_ | refine S29 ?_ | refine S30 ?_ | refine S34 ?_ | refine S36 ?_ | refine S37 ?_ | refine S38 ?_ | refine S40 ?_ | refine S41 ?_ | refine S49 ?_ | refine S50 ?_ | refine S63 ?_ | refine S77 ?_ | refine S80 ?_ | refine S81 ?_ | refine S84 ?_)
    refine Scall (args := [.lst true 1 (l.length + 1) ((rowsL n l l.length).map pli), plls (rowsL n l l.length)]) (hc := by simp only [PV.cl, PV.cl.clL, kcl, plls_cl, Bool.and_self, Bool.and_true, Bool.true_and]) kl ?_
    repeat (first | refine S0 ?_ | refine S1 ?_ | refine S2 ?_ | refine S4 ?_ | refine S5 ?_ | refine S6 ?_ | refine S7 ?_ | refine S8 ?_ | refine S10 ?_ | refine S11 ?_ | refine S13 ?_ | refine S15 ?_ | refine S16 ?_ | refine S19 ?_ | refine S20 ?_ | refine S21 ?_ | refine S22 ?_ | refine S23 ?_ | refine S25 ?_ | refine S26 ?_ | refine S28 ?_ | refine S29 ?_ | refine S30 ?_ | refine S34 ?_ | refine S36 ?_ | refine S37 ?_ | refine S38 ?_ | refine S40 ?_ | refine S41 ?_ | refine S49 ?_ | refine S50 ?_ | refine S63 ?_ | refine S77 ?_ | refine S80 ?_ | refine S81 ?_ | refine S84 ?_)
    refine Scall (args := [pli (rowN n l l.length), pli (rowN n l l.length)]) ke ?_
    repeat (first | refine S0 ?_ | refine S1 ?_ | refine S2 ?_ | refine S4 ?_ | refine S5 ?_ | refine S6 ?_ | refine S7 ?_ | refine S8 ?_ | refine S10 ?_ | refine S11 ?_ | refine S13 ?_ | refine S15 ?_ | refine S16 ?_ | refine S19 ?_ | refine S20 ?_ | refine S21 ?_ | refine S22 ?_ | refine S23 ?_ | refine S25 ?_ | refine S26 ?_ | refine S28 ?_ | refine S29 ?_ | refine S30 ?_ | refine S34 ?_ | refine S36 ?_ | refine S37 ?_ | refine S38 ?_ | refine S40 ?_ | refine S41 ?_ | refine S49 ?_ | refine S50 ?_ | refine S63 ?_ | refine S77 ?_ | refine S80 ?_ | refine S81 ?_ | refine S84 ?_)
    cases D <;> exact ⟨.inr rfl, .cl rfl⟩
theorem ringRows_s (n : Int) (l : List Int) : SC Try.prog 3 [pint n, pli l] (.sc (.bool true)) := by
  by_cases h0 : chE n l = 0
  · obtain ⟨m, rfl⟩ : ∃ m : Nat, n = m := ⟨n.toNat, by have := chE_ok h0; omega⟩
    by_cases hl : 200 < l.length
    · exact ringRows_long h0 hl
    · exact ringRows_ok h0 (by omega)
  · exact ringRows_bad h0
end Go.Proofs.Ytkmkcbkfakoomaa
