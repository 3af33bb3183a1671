/- Contracts of functions of this seat, and plain facts for them: used by the claims. No condition of its own. -/
import Derived.Test.YthkbcgggbgkfmaaTApplyC
import Derived.Test.YthkbcgggbgkfmaaUndPlain
set_option linter.unusedVariables false
namespace Go.Proofs.Ythkbcgggbgkfmaa
open Go.RowKit

theorem own_keep {w w' : World} {base : Nat} {e : TypeId} {n : Nat} {v : Value} {vs : List Value} {size : Nat} (h : w.ownsRow base e size v n vs) (hb : Below w.heap.size w w') : w'.ownsRow base e size v n vs := by
  obtain ⟨h1, h2⟩ := h
  refine ⟨h1, ?_⟩
  rcases h2 with h2 | ⟨g, cap, cur, hv, hg, hh, r⟩
  · exact Or.inl h2
  · exact Or.inr ⟨g, cap, cur, hv, hg, by rw [hb.block g (Array.getElem?_eq_some_iff.1 hh).1]; exact hh, r⟩
def frSize (w : World) (g : Nat) : Nat := match w.cell? ⟨g, 0, none⟩, w.cell? ⟨g, 1, none⟩ with
  | some (.int _ n), some (.int _ d) => mu (n, d)
  | _, _ => 0
theorem Fr.size {w : World} {g : Nat} {p : Int × Int} (h : Fr w g p) : frSize w g = mu p := by
  unfold frSize; rw [h.c0, h.c1]

set_option maxRecDepth 100000 in
set_option maxHeartbeats 4000000 in
theorem untangle_fault (n d : Int) (w : World) (hf : faultF n d ≠ 0) :
    Calls Try.prog 20 #[.agg #[.int .i64 n, .int .i64 d]] w fun e w' => e = .returned (.tuple #[.slice none 0 0, .int .i64 (faultF n d)]) ∧ Below w.heap.size w w' := by
  have hf2 : (faultF n d != 0) = true := by simpa using hf
  clear hf
  go_enter Try.func20, Try.ntmps20
  go_wp2_with (go_at_call 10; refine (tcheck_c _ _ _).mono ?_; rintro e w1 ⟨rfl, hb1⟩)
  go_ret2
  exact ⟨rfl, ((Below.refl _ _).alloc (Nat.le_refl _) _).trans (hb1.mono (by simp))⟩

set_option maxRecDepth 100000 in
set_option maxHeartbeats 4000000 in
theorem untangle_ok (n d : Int) (w : World) (hf : faultF n d = 0) :
    Calls Try.prog 20 #[.agg #[.int .i64 n, .int .i64 d]] w (ExpPost (untie (n, d)) w) := by
  have HF := Lib.hid hf
  have hR0 := fault_rt hf
  have HLN := Lib.hid (untie_len hR0)
  have HM := Lib.hid (untie_mem hR0)
  clear hf
  go_enter Try.func20, Try.ntmps20
  go_wp2_with (go_at_call 10; refine (tcheck_c _ _ _).mono ?_; rw [HF.out]; rintro e w1 ⟨rfl, hb1⟩)
  have hB : Below w.heap.size w w1 := ((Below.refl _ _).alloc (Nat.le_refl _) _).trans (hb1.mono (by simp))
  have hF0 := (Fr.new w (n, d)).below hb1 (by simp)
  clear hb1
  go_loopw [5] (fun out wr => ∃ (pn pd : Int) (outs : List Int), Rt (pn, pd) ∧ Fr wr w.heap.size (pn, pd) ∧ wr.ownsRow (w.heap.size + 1) 3 1 out outs.length (outs.map (Value.int .i64)) ∧ Hid (outs ++ untie (pn, pd) = untie (n, d)) ∧ Below w.heap.size w wr) (fun _ wr => frSize wr w.heap.size)
  case atStart => exact ⟨n, d, [], hR0, hF0, World.ownsRow_nil _ _ _ _, rfl, hB⟩
  case round =>
    obtain ⟨pn, pd, outs, hR, hF, hown, hall, hb⟩ := hrel
    have hol : outs.length ≤ 2000002 := by
      have h1 := congrArg List.length hall.out
      rw [List.length_append] at h1
      have := HLN.out
      omega
    have zb := hb.size
    have l0 := hF.lt
    have c0 := hF.c0
    have c1 := hF.c1
    have HRT := Lib.hid hR
    have HSZ := Lib.hid hF.size
    obtain ⟨⟨hd1, _, _⟩, ⟨hn1, hn2⟩, hd2⟩ := hR
    simp only at hd1 hn1 hn2 hd2
    by_cases hz : pn = 0
    · subst hz
      have hfull : Hid (untie (n, d) = outs) := by unfold Hid; rw [← hall.out, untie_zero rfl]; simp
      obtain ⟨A, c, rfl, hI⟩ := ints_of_own hown (fun i hi => by
        rw [getD_lt 0 hi]
        have := HM.out _ (by rw [hfull.out]; exact List.getElem_mem hi)
        unfold in64; omega)
      have h1 := hI.len
      have h2 := hI.cap_le
      go_wp2_with (go_at_call 29; refine (clip_c _ _ _ _ h1 h2).mono ?_; rintro e w' ⟨rfl, rfl⟩)
      go_ret2
      exact exp_mk hfull.out rfl (hI.recap (Nat.le_refl _) (by omega)) hb
    · have hz' : (pn != 0) = true := by simpa using hz
      have HN := Lib.hid (nxt_rt HRT.out)
      have HT := Lib.hid (trn_rt HN.out)
      obtain ⟨hk1, hk2⟩ := kf_bd HRT.out
      have HKF : Hid (kf (pn, pd) = kf (pn, pd)) := rfl
      by_cases hd : 0 < pd
      · have HK : Hid ((2 * pn + pd) / (2 * pd) = kf (pn, pd)) := by unfold Hid kf; rw [if_pos hd]
        by_cases hk0 : kf (pn, pd) = 0
        · have HQP : Hid (nxt (pn, pd) = (pn, pd)) := by unfold Hid nxt; rw [hk0]; simp [plusF]
          rw [hk0] at HK
          have hz1 : (nxt (pn, pd)).1 ≠ 0 := by rw [HQP.out]; exact hz
          have HGO : Hid (untie (pn, pd) = 0 :: untie (trn (pn, pd))) := by unfold Hid; rw [untie_go HRT.out hz hz1, HQP.out]; unfold pre; rw [if_pos hk0]; rfl
          have HM2 : Hid (mu (trn (pn, pd)) < mu (pn, pd)) := by have := mu_nxt HRT.out hz hz1; rwa [HQP.out] at this
          have HT := Lib.hid (trn_rt HRT.out)
          obtain ⟨⟨tn, td⟩, ht⟩ : ∃ q, trn (pn, pd) = q := ⟨_, rfl⟩
          rw [ht] at HT HGO HM2
          have HTQ := Lib.hid ht
          clear ht hz1 hk0
          go_wp2_with (first
            | (go_at_call 37; refine (floor_c _ _ _ ⟨by omega, by omega⟩ ⟨by omega, by omega⟩).mono ?_; rw [HK.out]; rintro e w' ⟨rfl, rfl⟩)
            | ((with_reducible refine at_dst 44 ?_); refine wpList_append1 _ rfl _ _ 22 3 rfl el_int (w.heap.size + 1) _ (outs.length) (outs.map (Value.int .i64)) (by rfl) (hown.alloc _) wr.heap.size 1 (by rfl) (.int .i64 (0)) (cell_new _ _ _ _ rfl) rfl (by omega) (by simp; omega) ?_; intro v5 w5 ho5 hg5 hb5 hat5 hnn5; have F5 := (hF.alloc _).below hb5 (Nat.lt_succ_self _); have hl5 := F5.lt; clear c0 c1; have b0 := F5.c0; have b1 := F5.c1)
            | (go_at_call 36; refine (turn_c pn pd _ ⟨by omega, by omega⟩ ⟨by omega, by omega⟩).mono ?_; rw [HTQ.out]; rintro e w6 ⟨rfl, hb6⟩; clear b0 b1; have z5 := hb5.size; have F6 := F5.below hb6 F5.lt; have F7 := F6.put tn td; have ho6 := ownsRow_setCell_below (ownsRow_setCell_below (own_keep ho5 hb6) (a := ⟨w.heap.size, 0, none⟩) (Nat.lt_succ_self _) (.int .i64 tn)) (a := ⟨w.heap.size, 1, none⟩) (Nat.lt_succ_self _) (.int .i64 td); have s0 := F6.c0; have s1 := F6.c1; have s2 := F6.f 0; have s3 := F6.f 1; have t0 := F7.c0; have t1 := F7.c1))
          go_roundw
          case rel => exact ⟨tn, td, outs ++ [0], HT.out, F7, by simpa using ho6, (by show (outs ++ [0]) ++ untie (tn, td) = _; rw [← hall.out, HGO.out]; simp), (((((hb.alloc zb (.cells #[.int .i64 0] 3)).trans (hb5.mono (Nat.le_succ _))).trans (hb6.mono (by have := F5.lt; omega))).setCell (p := ⟨w.heap.size, 0, none⟩) (Nat.le_refl _) (.int .i64 tn)).setCell (p := ⟨w.heap.size, 1, none⟩) (Nat.le_refl _) (.int .i64 td))⟩
          case measure => rw [F7.size, HSZ.out]; exact HM2.out
        have HQE : Hid (nxt (pn, pd) = plusF (pn, pd) (-kf (pn, pd))) := rfl
        have HPRE : Hid (pre (pn, pd) = if kf (pn, pd) = 0 then [] else [-kf (pn, pd)]) := rfl
        have HEND : Hid ((nxt (pn, pd)).1 = 0 → untie (pn, pd) = pre (pn, pd)) := fun h => untie_end hz h
        have HGO : Hid ((nxt (pn, pd)).1 ≠ 0 → untie (pn, pd) = pre (pn, pd) ++ 0 :: untie (trn (nxt (pn, pd)))) := fun h => untie_go HRT.out hz h
        have HM0 : Hid ((nxt (pn, pd)).1 = 0 → mu (nxt (pn, pd)) < mu (pn, pd)) := fun h => mu_nxt0 hz h
        have HM1 : Hid ((nxt (pn, pd)).1 ≠ 0 → mu (trn (nxt (pn, pd))) < mu (pn, pd)) := fun h => mu_nxt HRT.out hz h
        have hmul : -1000001000000 ≤ kf (pn, pd) * pd ∧ kf (pn, pd) * pd ≤ 1000001000000 := by
          have h1 : kf (pn, pd) * pd ≤ 1000000 * pd := Int.mul_le_mul_of_nonneg_right hk2 hd1
          have h2 : -1000000 * pd ≤ kf (pn, pd) * pd := Int.mul_le_mul_of_nonneg_right hk1 hd1
          omega
        obtain ⟨hm1, hm2⟩ := hmul
        generalize kf (pn, pd) = K at *
        obtain ⟨⟨qn, qd⟩, hq⟩ : ∃ q, nxt (pn, pd) = q := ⟨_, rfl⟩
        rw [hq] at HN HT HQE HEND HGO HM0 HM1
        have HQ1 : Hid (pn + -K * pd = qn) := (congrArg Prod.fst HQE.out).symm
        have HQ2 : Hid (pd = qd) := (congrArg Prod.snd HQE.out).symm
        clear hq
        by_cases hkz : K = 0
        · exact absurd hkz hk0
        · have hk0' : (K != 0) = true := by simpa using hk0
          by_cases hq0 : qn = 0
          · subst hq0
            have HM2 : Hid (mu (0, qd) < mu (pn, pd)) := HM0.out rfl
            have HT2 : Hid (untie (pn, pd) = [-K]) := by unfold Hid; rw [HEND.out rfl, HPRE.out, if_neg hk0]
            go_wp2_with (first
              | (go_at_call 37; refine (floor_c _ _ _ ⟨by omega, by omega⟩ ⟨by omega, by omega⟩).mono ?_; rw [HK.out]; rintro e w' ⟨rfl, rfl⟩)
              | ((with_reducible refine at_dst 34 ?_); refine wpList_append1 _ rfl _ _ 22 3 rfl el_int (w.heap.size + 1) _ (outs.length) (outs.map (Value.int .i64)) (by rfl) (hown.alloc _) wr.heap.size 1 (by rfl) (.int .i64 (-K)) (cell_new _ _ _ _ rfl) rfl (by omega) (by simp; omega) ?_; intro v2 w2 ho2 hg2 hb2 hat2 hnn2; have F2 := (hF.alloc _).below hb2 (Nat.lt_succ_self _); have hl2 := F2.lt; clear c0 c1; have a0 := F2.c0; have a1 := F2.c1)
              | (go_at_call 24; refine (plus_c pn pd (-K) _ ⟨by omega, by omega⟩ ⟨by rw [Int.neg_mul]; omega, by rw [Int.neg_mul]; omega⟩).mono ?_; rw [HQ1.out, HQ2.out]; rintro e w3 ⟨rfl, hb3⟩; clear a0 a1; have z3 := hb3.size; have z2 := hb2.size; simp at z2; have F3 := F2.below hb3 F2.lt; have ho3 := ownsRow_setCell_below (ownsRow_setCell_below (own_keep ho2 hb3) (a := ⟨w.heap.size, 0, none⟩) (Nat.lt_succ_self _) (.int .i64 0)) (a := ⟨w.heap.size, 1, none⟩) (Nat.lt_succ_self _) (.int .i64 qd); have hl3 := F3.lt; have F4 := F3.put 0 qd; have p0 := F3.c0; have p1 := F3.c1; have p2 := F3.f 0; have p3 := F3.f 1; have q0 := F4.c0; have q1 := F4.c1; have hw3 := (((hb.alloc zb (.cells #[.int .i64 (-K)] 3)).trans (hb2.mono (Nat.le_succ _))).trans (hb3.mono (by omega))).setCell (p := ⟨w.heap.size, 0, none⟩) (Nat.le_refl _) (.int .i64 0) |>.setCell (p := ⟨w.heap.size, 1, none⟩) (Nat.le_refl _) (.int .i64 qd)))
            go_roundw
            case rel => exact ⟨0, qd, outs ++ [-K], HN.out, F4, by simpa using ho3, (by show (outs ++ [-K]) ++ untie (0, qd) = _; rw [untie_zero rfl, List.append_nil, ← hall.out, HT2.out]), hw3⟩
            case measure => rw [F4.size, HSZ.out]; exact HM2.out
          · obtain ⟨⟨tn, td⟩, ht⟩ : ∃ q, trn (qn, qd) = q := ⟨_, rfl⟩
            rw [ht] at HT HGO HM1
            have HTQ := Lib.hid ht
            clear ht
            have HT2 : Hid (untie (pn, pd) = [-K] ++ 0 :: untie (tn, td)) := by unfold Hid; rw [HGO.out hq0, HPRE.out, if_neg hk0]
            have hq0' : (qn != 0) = true := by simpa using hq0
            have HM2 : Hid (mu (tn, td) < mu (pn, pd)) := HM1.out hq0
            obtain ⟨⟨g1, _, _⟩, ⟨g2, g3⟩, g4⟩ := HN.out
            simp only at g1 g2 g3 g4
            have hlen1 : (outs ++ [-K]).length = outs.length + 1 := by simp
            go_wp2_with (first
              | (go_at_call 37; refine (floor_c _ _ _ ⟨by omega, by omega⟩ ⟨by omega, by omega⟩).mono ?_; rw [HK.out]; rintro e w' ⟨rfl, rfl⟩)
              | ((with_reducible refine at_dst 34 ?_); refine wpList_append1 _ rfl _ _ 22 3 rfl el_int (w.heap.size + 1) _ (outs.length) (outs.map (Value.int .i64)) (by rfl) (hown.alloc _) wr.heap.size 1 (by rfl) (.int .i64 (-K)) (cell_new _ _ _ _ rfl) rfl (by omega) (by simp; omega) ?_; intro v2 w2 ho2 hg2 hb2 hat2 hnn2; have F2 := (hF.alloc _).below hb2 (Nat.lt_succ_self _); have hl2 := F2.lt; clear c0 c1; have a0 := F2.c0; have a1 := F2.c1)
              | (go_at_call 24; refine (plus_c pn pd (-K) _ ⟨by omega, by omega⟩ ⟨by rw [Int.neg_mul]; omega, by rw [Int.neg_mul]; omega⟩).mono ?_; rw [HQ1.out, HQ2.out]; rintro e w3 ⟨rfl, hb3⟩; clear a0 a1; have z3 := hb3.size; have z2 := hb2.size; simp at z2; have F3 := F2.below hb3 F2.lt; have ho3 := ownsRow_setCell_below (ownsRow_setCell_below (own_keep ho2 hb3) (a := ⟨w.heap.size, 0, none⟩) (Nat.lt_succ_self _) (.int .i64 qn)) (a := ⟨w.heap.size, 1, none⟩) (Nat.lt_succ_self _) (.int .i64 qd); have hl3 := F3.lt; have F4 := F3.put qn qd; have p0 := F3.c0; have p1 := F3.c1; have p2 := F3.f 0; have p3 := F3.f 1; have q0 := F4.c0; have q1 := F4.c1; have hw3 := (((hb.alloc zb (.cells #[.int .i64 (-K)] 3)).trans (hb2.mono (Nat.le_succ _))).trans (hb3.mono (by omega))).setCell (p := ⟨w.heap.size, 0, none⟩) (Nat.le_refl _) (.int .i64 qn) |>.setCell (p := ⟨w.heap.size, 1, none⟩) (Nat.le_refl _) (.int .i64 qd))
              | ((with_reducible refine at_dst 44 ?_); refine wpList_append1 _ rfl _ _ 22 3 rfl el_int (w.heap.size + 1) _ (outs.length + 1) (outs.map (Value.int .i64) ++ [.int .i64 (-K)]) (by rfl) (ho3.alloc _) w3.heap.size 1 (by rfl) (.int .i64 (0)) (cell_new _ _ _ _ (by simp [World.setCell])) rfl (by omega) (by simp [World.setCell]; omega) ?_; intro v5 w5 ho5 hg5 hb5 hat5 hnn5; have F5 := (F4.alloc _).below hb5 (Nat.lt_succ_self _); have hl5 := F5.lt; clear p0 p1 p2 p3 q0 q1; have b0 := F5.c0; have b1 := F5.c1)
              | (go_at_call 36; refine (turn_c qn qd _ ⟨by omega, by omega⟩ ⟨by omega, by omega⟩).mono ?_; rw [HTQ.out]; rintro e w6 ⟨rfl, hb6⟩; clear b0 b1; have z5 := hb5.size; have F6 := F5.below hb6 F5.lt; have F7 := F6.put tn td; have ho6 := ownsRow_setCell_below (ownsRow_setCell_below (own_keep ho5 hb6) (a := ⟨w.heap.size, 0, none⟩) (Nat.lt_succ_self _) (.int .i64 tn)) (a := ⟨w.heap.size, 1, none⟩) (Nat.lt_succ_self _) (.int .i64 td); have s0 := F6.c0; have s1 := F6.c1; have s2 := F6.f 0; have s3 := F6.f 1; have t0 := F7.c0; have t1 := F7.c1))
            go_roundw
            case rel => exact ⟨tn, td, outs ++ [-K] ++ [0], HT.out, F7, by simpa using ho6, (by show (outs ++ [-K] ++ [0]) ++ untie (tn, td) = _; rw [← hall.out, HT2.out]; simp), (((((hw3.alloc hw3.size (.cells #[.int .i64 0] 3)).trans (hb5.mono (Nat.le_succ _))).trans (hb6.mono (by have := F5.lt; omega))).setCell (p := ⟨w.heap.size, 0, none⟩) (Nat.le_refl _) (.int .i64 tn)).setCell (p := ⟨w.heap.size, 1, none⟩) (Nat.le_refl _) (.int .i64 td))⟩
            case measure => rw [F7.size, HSZ.out]; exact HM2.out
      · obtain ⟨hp, hnx, hk0⟩ := nxt_zero HRT.out hd
        have HQP : Hid (nxt (pn, pd) = (pn, pd)) := by unfold Hid; rw [hnx, hp]
        clear hp hnx
        have hz1 : (nxt (pn, pd)).1 ≠ 0 := by rw [HQP.out]; exact hz
        have HGO : Hid (untie (pn, pd) = 0 :: untie (trn (pn, pd))) := by unfold Hid; rw [untie_go HRT.out hz hz1, HQP.out]; unfold pre; rw [if_pos hk0]; rfl
        have HM2 : Hid (mu (trn (pn, pd)) < mu (pn, pd)) := by have := mu_nxt HRT.out hz hz1; rwa [HQP.out] at this
        have HT := Lib.hid (trn_rt HRT.out)
        obtain ⟨⟨tn, td⟩, ht⟩ : ∃ q, trn (pn, pd) = q := ⟨_, rfl⟩
        rw [ht] at HT HGO HM2
        have HTQ := Lib.hid ht
        clear ht hz1 hk0
        go_wp2_with (first
          | ((with_reducible refine at_dst 44 ?_); refine wpList_append1 _ rfl _ _ 22 3 rfl el_int (w.heap.size + 1) _ (outs.length) (outs.map (Value.int .i64)) (by rfl) (hown.alloc _) wr.heap.size 1 (by rfl) (.int .i64 (0)) (cell_new _ _ _ _ rfl) rfl (by omega) (by simp; omega) ?_; intro v5 w5 ho5 hg5 hb5 hat5 hnn5; have F5 := (hF.alloc _).below hb5 (Nat.lt_succ_self _); have hl5 := F5.lt; clear c0 c1; have b0 := F5.c0; have b1 := F5.c1)
          | (go_at_call 36; refine (turn_c pn pd _ ⟨by omega, by omega⟩ ⟨by omega, by omega⟩).mono ?_; rw [HTQ.out]; rintro e w6 ⟨rfl, hb6⟩; clear b0 b1; have z5 := hb5.size; have F6 := F5.below hb6 F5.lt; have F7 := F6.put tn td; have ho6 := ownsRow_setCell_below (ownsRow_setCell_below (own_keep ho5 hb6) (a := ⟨w.heap.size, 0, none⟩) (Nat.lt_succ_self _) (.int .i64 tn)) (a := ⟨w.heap.size, 1, none⟩) (Nat.lt_succ_self _) (.int .i64 td); have s0 := F6.c0; have s1 := F6.c1; have s2 := F6.f 0; have s3 := F6.f 1; have t0 := F7.c0; have t1 := F7.c1))
        go_roundw
        case rel => exact ⟨tn, td, outs ++ [0], HT.out, F7, by simpa using ho6, (by show (outs ++ [0]) ++ untie (tn, td) = _; rw [← hall.out, HGO.out]; simp), (((((hb.alloc zb (.cells #[.int .i64 0] 3)).trans (hb5.mono (Nat.le_succ _))).trans (hb6.mono (by have := F5.lt; omega))).setCell (p := ⟨w.heap.size, 0, none⟩) (Nat.le_refl _) (.int .i64 tn)).setCell (p := ⟨w.heap.size, 1, none⟩) (Nat.le_refl _) (.int .i64 td))⟩
        case measure => rw [F7.size, HSZ.out]; exact HM2.out
end Go.Proofs.Ythkbcgggbgkfmaa
