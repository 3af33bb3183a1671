/- Contracts of functions of this seat, and plain facts for them: used by the claims. No condition of its own. -/
import Derived.Test.YthkbcgggbgkfmaaTApply
set_option linter.unusedVariables false
namespace Go.Proofs.Ythkbcgggbgkfmaa
open Go.RowKit

def apV (n d : Int) (l : List Int) : Value := .tuple #[frac (applyF n d l).2, .int .i64 (applyF n d l).1]
theorem pair_new (w : World) (n d : Int) : Fr ((w.alloc (.cells #[.int .i64 n, .int .i64 d] 24)).alloc (.cells #[.int .i64 0, .int .i64 0] 24)) w.heap.size (n, d) ∧ Fr ((w.alloc (.cells #[.int .i64 n, .int .i64 d] 24)).alloc (.cells #[.int .i64 0, .int .i64 0] 24)) (w.heap.size + 1) (0, 0) ∧ Below w.heap.size w ((w.alloc (.cells #[.int .i64 n, .int .i64 d] 24)).alloc (.cells #[.int .i64 0, .int .i64 0] 24)) :=
  ⟨(Fr.new w (n, d)).alloc _, Fr.new' (p := (0, 0)) (by simp), ((Below.refl _ _).alloc (Nat.le_refl _) _).alloc (by simp) _⟩

set_option maxRecDepth 100000 in
set_option maxHeartbeats 4000000 in
theorem apply_c (n d : Int) (A : Option Addr) (cap : Nat) (xs : List Int) (w : World) (h : IsInts w A cap xs) :
    Calls Try.prog 19 #[.agg #[.int .i64 n, .int .i64 d], .slice A xs.length cap] w fun e w' => e = .returned (apV n d xs) ∧ Below w.heap.size w w' := by
  have h1 := h.len
  have h2 := h.cap_le
  obtain ⟨F0, R0, hb0⟩ := pair_new w n d
  by_cases hf : faultF n d = 0
  · have HF := Lib.hid hf
    by_cases hl : 200 < xs.length
    · have HV : Hid (apV n d xs = .tuple #[.agg #[.int .i64 0, .int .i64 0], .int .i64 2]) := by unfold Hid apV applyF; rw [if_neg (by rw [hf]; decide), if_pos hl]; rfl
      clear hf
      go_enter Try.func19, Try.ntmps19
      go_wp2_with (go_at_call 10; refine (tcheck_c n d _).mono ?_; rw [HF.out]; rintro e w1 ⟨rfl, hb1⟩; have hz := R0.lt; have R1 := R0.below hb1 R0.lt; have r0 := R1.c0; have r1 := R1.c1; have r2 := R1.f 0; have r3 := R1.f 1; have s0 := (R1.put 0 0).c0; have s1 := (R1.put 0 0).c1)
      rw [HV.out]
      exact bodyPost_ret (v := .tuple #[.agg #[.int .i64 0, .int .i64 0], .int .i64 2]) (by simp [results, Try.results19, go_sem, s0, s1]) rfl ⟨rfl, ((hb0.trans (hb1.mono (by simp; omega))).setCell (p := ⟨w.heap.size + 1, 0, none⟩) (by simp) _).setCell (p := ⟨w.heap.size + 1, 1, none⟩) (by simp) _⟩
    · have HV : Hid (apV n d xs = .tuple #[frac (ap (n, d) xs).2, .int .i64 (ap (n, d) xs).1]) := by unfold Hid apV applyF; rw [if_neg (by rw [hf]; decide), if_neg hl]
      clear hf
      go_enter Try.func19, Try.ntmps19
      go_wp2_with (go_at_call 10; refine (tcheck_c n d _).mono ?_; rw [HF.out]; rintro e w1 ⟨rfl, hb1⟩)
      go_loopw [8, 21] (fun _ i wr => ∃ (k : Nat) (pn pd : Int), k ≤ xs.length ∧ i = .int .i64 k ∧ Fr wr w.heap.size (pn, pd) ∧ Fr wr (w.heap.size + 1) (0, 0) ∧ faultF pn pd = 0 ∧ Hid (ap (n, d) xs = ap (pn, pd) (xs.drop k)) ∧ Below w.heap.size w wr) (fun _ i _ => xs.length - (intOf i).toNat)
      case atStart => exact ⟨0, n, d, Nat.zero_le _, rfl, F0.below hb1 F0.lt, R0.below hb1 R0.lt, HF.out, rfl, hb0.trans (hb1.mono (by simp; omega))⟩
      case round =>
        clear F0 R0 hb0 hb1
        obtain ⟨k, pn, pd, hk, rfl, hF, hR, hfp, HAP, hb⟩ := hrel
        obtain ⟨⟨hn1, hn2⟩, ⟨hd1, hd2⟩, hN⟩ := fault_zero hfp
        clear hfp
        have zb := hb.size
        have c0 := hF.c0
        have c1 := hF.c1
        have l0 := hF.lt
        have l1 := hR.lt
        by_cases hlt : k < xs.length
        · have hlt' := hlt
          obtain ⟨b, o, rfl, hbl, hc⟩ := h.row (by intro e; simp [e] at hlt)
          have hck := (hb.cell (p := ⟨b, o + k, none⟩) hbl).trans (hc k hlt)
          rw [getD_lt 0 hlt] at hck
          clear hc
          by_cases hbig : xs[k] < -1000000 ∨ 1000000 < xs[k]
          · have HB := Lib.hid (ap_big (p := (pn, pd)) hlt' hbig)
            have hi := h.bd k hlt
            generalize xs[k] = a at *
            have r0 := hR.c0
            have r1 := hR.c1
            have r2 := hR.f 0
            have r3 := hR.f 1
            have s0 := (hR.put 0 0).c0
            have s1 := (hR.put 0 0).c1
            have hE : Hid (ap (n, d) xs = (1, (0, 0))) := by unfold Hid; rw [HAP.out, HB.out]
            by_cases hs : a < -1000000
            · clear hbig
              go_wp2
              rw [HV.out, hE.out]
              exact bodyPost_ret (v := .tuple #[.agg #[.int .i64 0, .int .i64 0], .int .i64 1]) (by simp [results, Try.results19, go_sem, s0, s1]) rfl ⟨rfl, (hb.setCell (p := ⟨w.heap.size + 1, 0, none⟩) (by simp) _).setCell (p := ⟨w.heap.size + 1, 1, none⟩) (by simp) _⟩
            · have hg : 1000000 < a := by omega
              clear hbig
              go_wp2
              rw [HV.out, hE.out]
              exact bodyPost_ret (v := .tuple #[.agg #[.int .i64 0, .int .i64 0], .int .i64 1]) (by simp [results, Try.results19, go_sem, s0, s1]) rfl ⟨rfl, (hb.setCell (p := ⟨w.heap.size + 1, 0, none⟩) (by simp) _).setCell (p := ⟨w.heap.size + 1, 1, none⟩) (by simp) _⟩
          · obtain ⟨a, ha⟩ : ∃ a, xs[k] = a := ⟨_, rfl⟩
            have HAK := Lib.hid ha
            have hb1' : -1000000 ≤ a := by omega
            have hb2' : a ≤ 1000000 := by omega
            rw [ha] at hck
            by_cases h0 : a = 0
            · obtain ⟨⟨qn, qd⟩, hq⟩ : ∃ q, trn (pn, pd) = q := ⟨_, rfl⟩
              have HT := Lib.hid hq
              have HST : Hid (stp (pn, pd) xs[k] = (qn, qd)) := by unfold Hid stp; rw [ha, if_pos h0]; exact hq
              subst h0
              clear hq hN ha
              by_cases hf2 : faultF qn qd = 0
              · have HF2 := Lib.hid hf2
                have HN := Lib.hid (ap_next hlt' hbig (by rw [HST.out]; exact hf2))
                clear hf2
                go_wp2_with (first
                  | (go_at_call 36; refine (turn_c pn pd _ ⟨by omega, by omega⟩ ⟨by omega, by omega⟩).mono ?_; rw [HT.out]; rintro e w1 ⟨rfl, hb1⟩; have z1 := hb1.size; have F1 := hF.below hb1 hF.lt; have R1 := hR.below hb1 hR.lt; have p0 := F1.c0; have p1 := F1.c1; have p2 := F1.f 0; have p3 := F1.f 1; have q0 := (F1.put qn qd).c0; have q1 := (F1.put qn qd).c1)
                  | (go_at_call 10; refine (tcheck_c qn qd _).mono ?_; rw [HF2.out]; rintro e w2 ⟨rfl, hb2⟩; have hl := hF.lt; have hl1 := hR.lt; have Q1 : Fr ((w1.setCell ⟨w.heap.size, 0, none⟩ (.int .i64 qn)).setCell ⟨w.heap.size, 1, none⟩ (.int .i64 qd)) w.heap.size (qn, qd) := F1.put qn qd; have F2 := Q1.below hb2 Q1.lt; have R2 := (R1.of_block (w' := (w1.setCell ⟨w.heap.size, 0, none⟩ (.int .i64 qn)).setCell ⟨w.heap.size, 1, none⟩ (.int .i64 qd)) (by rw [Below.heap_setCell _ _ _ _ (by simp), Below.heap_setCell _ _ _ _ (by simp)])).below hb2 (by simp [World.setCell]; omega); have hw2 := (((hb.trans (hb1.mono hb.size)).setCell (p := ⟨w.heap.size, 0, none⟩) (Nat.le_refl _) (.int .i64 qn)).setCell (p := ⟨w.heap.size, 1, none⟩) (Nat.le_refl _) (.int .i64 qd)).trans (hb2.mono (by simp [World.setCell]; omega))))
                go_roundw
                case rel => exact ⟨k + 1, qn, qd, by omega, by go_num, F2, R2, HF2.out, HAP.out.trans (HN.out.trans (by rw [HST.out])), hw2⟩
                case measure => simp [intOf]; omega
              · have HF2 := Lib.hid hf2
                have HB := Lib.hid (ap_bad hlt' hbig (by rw [HST.out]; exact hf2))
                have hf3 : (faultF qn qd != 0) = true := by simpa using hf2
                have hf4 : (faultF qn qd == 0) = false := by simpa using hf2
                clear hf2
                go_wp2_with (first
                  | (go_at_call 36; refine (turn_c pn pd _ ⟨by omega, by omega⟩ ⟨by omega, by omega⟩).mono ?_; rw [HT.out]; rintro e w1 ⟨rfl, hb1⟩; have z1 := hb1.size; have F1 := hF.below hb1 hF.lt; have R1 := hR.below hb1 hR.lt; have p0 := F1.c0; have p1 := F1.c1; have p2 := F1.f 0; have p3 := F1.f 1; have q0 := (F1.put qn qd).c0; have q1 := (F1.put qn qd).c1)
                  | (go_at_call 10; refine (tcheck_c qn qd _).mono ?_; rintro e w2 ⟨rfl, hb2⟩; have hl := hF.lt; have hl1 := hR.lt; have R2 := (R1.of_block (w' := (w1.setCell ⟨w.heap.size, 0, none⟩ (.int .i64 qn)).setCell ⟨w.heap.size, 1, none⟩ (.int .i64 qd)) (by rw [Below.heap_setCell _ _ _ _ (by simp), Below.heap_setCell _ _ _ _ (by simp)])).below hb2 (by simp [World.setCell]; omega); have hw2 := (((hb.trans (hb1.mono hb.size)).setCell (p := ⟨w.heap.size, 0, none⟩) (Nat.le_refl _) (.int .i64 qn)).setCell (p := ⟨w.heap.size, 1, none⟩) (Nat.le_refl _) (.int .i64 qd)).trans (hb2.mono (by simp [World.setCell]; omega)); clear p0 p1 p2 p3 q0 q1; have r0 := R2.c0; have r1 := R2.c1; have r2 := R2.f 0; have r3 := R2.f 1; have s0 := (R2.put 0 0).c0; have s1 := (R2.put 0 0).c1))
                have hE : ap (n, d) xs = (2, (0, 0)) := by rw [HAP.out, HB.out]
                exact bodyPost_ret (v := .tuple #[.agg #[.int .i64 0, .int .i64 0], .int .i64 2]) (by simp [results, Try.results19, go_sem, s0, s1]) rfl ⟨by rw [HV.out, hE]; rfl, (hw2.setCell (p := ⟨w.heap.size + 1, 0, none⟩) (by simp) _).setCell (p := ⟨w.heap.size + 1, 1, none⟩) (by simp) _⟩
            · obtain ⟨⟨qn, qd⟩, hq⟩ : ∃ q, plusF (pn, pd) a = q := ⟨_, rfl⟩
              have HST : Hid (stp (pn, pd) xs[k] = (qn, qd)) := by unfold Hid stp; rw [ha, if_neg h0]; exact hq
              have h0' : (a == 0) = false := by simpa using h0
              have HQ1 : Hid (pn + a * pd = qn) := congrArg Prod.fst hq
              have HQ2 : Hid (pd = qd) := congrArg Prod.snd hq
              have hm1 : a * pd ≤ 1000000 * 1000000 := by
                have h1 : a * pd ≤ 1000000 * pd := Int.mul_le_mul_of_nonneg_right hb2' hd1
                omega
              have hm2 : -(1000000 * 1000000) ≤ a * pd := by
                have h1 : -1000000 * pd ≤ a * pd := Int.mul_le_mul_of_nonneg_right hb1' hd1
                omega
              clear hq hN ha
              by_cases hf2 : faultF qn qd = 0
              · have HF2 := Lib.hid hf2
                have HN := Lib.hid (ap_next hlt' hbig (by rw [HST.out]; exact hf2))
                clear hf2
                go_wp2_with (first
                  | (go_at_call 24; refine (plus_c pn pd a _ ⟨by omega, by omega⟩ ⟨by omega, by omega⟩).mono ?_; rw [HQ1.out, HQ2.out]; rintro e w1 ⟨rfl, hb1⟩; have z1 := hb1.size; have F1 := hF.below hb1 hF.lt; have R1 := hR.below hb1 hR.lt; have p0 := F1.c0; have p1 := F1.c1; have p2 := F1.f 0; have p3 := F1.f 1; have q0 := (F1.put qn qd).c0; have q1 := (F1.put qn qd).c1)
                  | (go_at_call 10; refine (tcheck_c qn qd _).mono ?_; rw [HF2.out]; rintro e w2 ⟨rfl, hb2⟩; have hl := hF.lt; have hl1 := hR.lt; have Q1 : Fr ((w1.setCell ⟨w.heap.size, 0, none⟩ (.int .i64 qn)).setCell ⟨w.heap.size, 1, none⟩ (.int .i64 qd)) w.heap.size (qn, qd) := F1.put qn qd; have F2 := Q1.below hb2 Q1.lt; have R2 := (R1.of_block (w' := (w1.setCell ⟨w.heap.size, 0, none⟩ (.int .i64 qn)).setCell ⟨w.heap.size, 1, none⟩ (.int .i64 qd)) (by rw [Below.heap_setCell _ _ _ _ (by simp), Below.heap_setCell _ _ _ _ (by simp)])).below hb2 (by simp [World.setCell]; omega); have hw2 := (((hb.trans (hb1.mono hb.size)).setCell (p := ⟨w.heap.size, 0, none⟩) (Nat.le_refl _) (.int .i64 qn)).setCell (p := ⟨w.heap.size, 1, none⟩) (Nat.le_refl _) (.int .i64 qd)).trans (hb2.mono (by simp [World.setCell]; omega))))
                go_roundw
                case rel => exact ⟨k + 1, qn, qd, by omega, by go_num, F2, R2, HF2.out, HAP.out.trans (HN.out.trans (by rw [HST.out])), hw2⟩
                case measure => simp [intOf]; omega
              · have HF2 := Lib.hid hf2
                have HB := Lib.hid (ap_bad hlt' hbig (by rw [HST.out]; exact hf2))
                have hf3 : (faultF qn qd != 0) = true := by simpa using hf2
                have hf4 : (faultF qn qd == 0) = false := by simpa using hf2
                clear hf2
                go_wp2_with (first
                  | (go_at_call 24; refine (plus_c pn pd a _ ⟨by omega, by omega⟩ ⟨by omega, by omega⟩).mono ?_; rw [HQ1.out, HQ2.out]; rintro e w1 ⟨rfl, hb1⟩; have z1 := hb1.size; have F1 := hF.below hb1 hF.lt; have R1 := hR.below hb1 hR.lt; have p0 := F1.c0; have p1 := F1.c1; have p2 := F1.f 0; have p3 := F1.f 1; have q0 := (F1.put qn qd).c0; have q1 := (F1.put qn qd).c1)
                  | (go_at_call 10; refine (tcheck_c qn qd _).mono ?_; rintro e w2 ⟨rfl, hb2⟩; have hl := hF.lt; have hl1 := hR.lt; have R2 := (R1.of_block (w' := (w1.setCell ⟨w.heap.size, 0, none⟩ (.int .i64 qn)).setCell ⟨w.heap.size, 1, none⟩ (.int .i64 qd)) (by rw [Below.heap_setCell _ _ _ _ (by simp), Below.heap_setCell _ _ _ _ (by simp)])).below hb2 (by simp [World.setCell]; omega); have hw2 := (((hb.trans (hb1.mono hb.size)).setCell (p := ⟨w.heap.size, 0, none⟩) (Nat.le_refl _) (.int .i64 qn)).setCell (p := ⟨w.heap.size, 1, none⟩) (Nat.le_refl _) (.int .i64 qd)).trans (hb2.mono (by simp [World.setCell]; omega)); clear p0 p1 p2 p3 q0 q1; have r0 := R2.c0; have r1 := R2.c1; have r2 := R2.f 0; have r3 := R2.f 1; have s0 := (R2.put 0 0).c0; have s1 := (R2.put 0 0).c1))
                have hE : ap (n, d) xs = (2, (0, 0)) := by rw [HAP.out, HB.out]
                exact bodyPost_ret (v := .tuple #[.agg #[.int .i64 0, .int .i64 0], .int .i64 2]) (by simp [results, Try.results19, go_sem, s0, s1]) rfl ⟨by rw [HV.out, hE]; rfl, (hw2.setCell (p := ⟨w.heap.size + 1, 0, none⟩) (by simp) _).setCell (p := ⟨w.heap.size + 1, 1, none⟩) (by simp) _⟩
        · obtain rfl : k = xs.length := by omega
          have HE : Hid (ap (n, d) xs = (0, (pn, pd))) := by unfold Hid; rw [HAP.out, ap_end (Nat.le_refl _)]
          have r0 := hR.c0
          have r1 := hR.c1
          have r2 := hR.f 0
          have r3 := hR.f 1
          have s0 := (hR.put pn pd).c0
          have s1 := (hR.put pn pd).c1
          go_wp2
          rw [HV.out, HE.out]
          exact bodyPost_ret (v := .tuple #[.agg #[.int .i64 pn, .int .i64 pd], .int .i64 0]) (by simp [results, Try.results19, go_sem, s0, s1]) rfl ⟨rfl, (hb.setCell (p := ⟨w.heap.size + 1, 0, none⟩) (by simp) _).setCell (p := ⟨w.heap.size + 1, 1, none⟩) (by simp) _⟩
  · have HV : Hid (apV n d xs = .tuple #[.agg #[.int .i64 0, .int .i64 0], .int .i64 (faultF n d)]) := by unfold Hid apV applyF; rw [if_pos hf]; rfl
    have hf2 : (faultF n d != 0) = true := by simpa using hf
    have hf3 : (faultF n d == 0) = false := by simpa using hf
    clear hf
    go_enter Try.func19, Try.ntmps19
    go_wp2_with (go_at_call 10; refine (tcheck_c n d _).mono ?_; rintro e w1 ⟨rfl, hb1⟩; have hz := R0.lt; have R1 := R0.below hb1 R0.lt; have r0 := R1.c0; have r1 := R1.c1; have r2 := R1.f 0; have r3 := R1.f 1; have s0 := (R1.put 0 0).c0; have s1 := (R1.put 0 0).c1)
    rw [HV.out]
    exact bodyPost_ret (v := .tuple #[.agg #[.int .i64 0, .int .i64 0], .int .i64 (faultF n d)]) (by simp [results, Try.results19, go_sem, s0, s1]) rfl ⟨rfl, ((hb0.trans (hb1.mono (by simp; omega))).setCell (p := ⟨w.heap.size + 1, 0, none⟩) (by simp) _).setCell (p := ⟨w.heap.size + 1, 1, none⟩) (by simp) _⟩
end Go.Proofs.Ythkbcgggbgkfmaa
