/- Contracts of functions of this seat, and plain facts for them: used by the claims. No condition of its own. -/
import Derived.Test.YthkbcgggbgkfmaaTChain
set_option linter.unusedVariables false
namespace Go.Proofs.Ythkbcgggbgkfmaa
open Go.RowKit

set_option maxRecDepth 100000 in
set_option maxHeartbeats 2000000 in
theorem twistedF_c (w : World) : Calls Try.prog 9 #[] w fun e w' => e = .returned (.bool true) ∧ Below w.heap.size w w' := by
  have hI := ints_lit w [2, 3] #[.int .i64 2, .int .i64 3] 3 w.heap.size 2 rfl rfl rfl (by decide) (fun i hi => by match i, hi with | 0, _ => exact ⟨by decide, by decide⟩ | 1, _ => exact ⟨by decide, by decide⟩)
  have HV : Hid (ftV [2, 3] = .agg #[.int .i64 7, .int .i64 2]) := by rfl
  have HE : Hid (ftE [2, 3] = 0) := by rfl
  go_enter Try.func9, Try.ntmps9
  go_wp2_with (go_at_call 6; refine (fromTwists_c _ _ _ _ hI).mono ?_; rw [HV.out, HE.out]; rintro e w1 ⟨rfl, hb1⟩)
  go_ret
  exact ⟨rfl, (((Below.refl _ _).alloc (Nat.le_refl _) _).trans (hb1.mono (by simp))).alloc (by have := hb1.size; simp at this; omega) _⟩

set_option maxRecDepth 100000 in
set_option maxHeartbeats 4000000 in
theorem tw_L1_bad (A : Option Addr) (cap : Nat) (xs : List Int) (n d : Int) (w : World) (h : IsInts w A cap xs) (hf : faultF n d ≠ 0) (hl : 12 < xs.length) :
    Calls Try.prog 3 #[.slice A xs.length cap, .agg #[.int .i64 n, .int .i64 d]] w fun e w' => e = .returned (.bool true) ∧ Below w.heap.size w w' := by
  have HV : Hid (ftV xs = .agg #[.int .i64 0, .int .i64 0]) := if_pos hl
  have HE : Hid (ftE xs = 2) := if_pos hl
  have hf2 : (faultF n d != 0) = true := by simpa using hf
  have hf3 : (faultF n d == 0) = false := by simpa using hf
  have HF := Lib.hid hf
  clear hf
  have tok1 : True := trivial
  have h0 := h.alloc (.cells #[.int .i64 n, .int .i64 d] 24)
  go_enter Try.func3, Try.ntmps3
  go_wp2_with (first
    | (go_at_call 6; refine (fromTwists_c _ _ _ _ h0).mono ?_; rw [HV.out, HE.out]; rintro e w1 ⟨rfl, hb1⟩; have z1 := hb1.size; simp at z1; have F1 := ((Fr.new w (n, d)).below hb1 (by simp)).alloc (.cells #[.int .i64 0, .int .i64 0] 24); have G1 := Fr.new w1 (0, 0); have a0 := F1.c0; have a1 := F1.c1)
    | (go_at_call 7; refine (expand_fault n d _ HF.out).mono ?_; rintro e w2 ⟨rfl, hb2⟩; clear a0 a1; have z2 := hb2.size; simp at z2; have F2 := F1.below hb2 F1.lt; have G2 := G1.below hb2 G1.lt; have b0 := F2.c0; have b1 := F2.c1)
    | (go_at_call 8; have _t := tok1; refine (ffault_c n d _).mono ?_; rintro e w3 ⟨rfl, hb3⟩; clear tok1 b0 b1; have z3 := hb3.size; have F3 := F2.below hb3 F2.lt; have G3 := G2.below hb3 G2.lt; have c0 := F3.c0; have c1 := F3.c1)
    | (go_at_call 9; refine (twistedF_c _).mono ?_; rintro e w4 ⟨rfl, hb4⟩; clear c0 c1; have z4 := hb4.size; have F4 := F3.below hb4 F3.lt; have G4 := G3.below hb4 G3.lt; have d0 := F4.c0; have d1 := F4.c1)
    | (go_at_call 10; refine (tcheck_c n d _).mono ?_; rintro e w5 ⟨rfl, hb5⟩; clear d0 d1; have z5 := hb5.size; have F5 := F4.below hb5 F4.lt; have G5 := G4.below hb5 G4.lt; have e0 := F5.c0; have e1 := F5.c1)
    | (go_at_call 15; have hw := ((((((((Below.refl w.heap.size w).alloc (Nat.le_refl _) (.cells #[.int .i64 n, .int .i64 d] 24)).trans (hb1.mono (by simp))).alloc (by omega) (.cells #[.int .i64 0, .int .i64 0] 24)).trans (hb2.mono (by (simp; try omega)))).trans (hb3.mono (by omega))).trans (hb4.mono (by omega))).trans (hb5.mono (by omega))).alloc (by omega) (.cells #[.int .i64 0, .int .i64 0] 24); refine (equal_c none none 0 0 [] [] _ (IsInts.nil _ _ _ (by omega)) (IsInts.nil _ _ _ (by omega))).mono ?_; rw [decide_eq_true rfl]; rintro e w9 ⟨rfl, hb9⟩; have G9 := (G5.alloc (.cells #[.int .i64 0, .int .i64 0] 24)).below hb9 (G5.alloc (.cells #[.int .i64 0, .int .i64 0] 24)).lt; have W9 := (Fr.new w5 (0, 0)).below hb9 (Fr.new w5 (0, 0)).lt; have g0 := G9.c0; have g1 := G9.c1; have v0 := W9.c0; have v1 := W9.c1))
  go_ret
  exact ⟨rfl, hw.trans (hb9.mono hw.size)⟩

set_option maxRecDepth 100000 in
set_option maxHeartbeats 4000000 in
theorem tw_L1_ok (A : Option Addr) (cap : Nat) (xs : List Int) (n d : Int) (w : World) (h : IsInts w A cap xs) (hf : faultF n d = 0) (hl : 12 < xs.length) :
    Calls Try.prog 3 #[.slice A xs.length cap, .agg #[.int .i64 n, .int .i64 d]] w fun e w' => e = .returned (.bool true) ∧ Below w.heap.size w w' := by
  have HV : Hid (ftV xs = .agg #[.int .i64 0, .int .i64 0]) := if_pos hl
  have HE : Hid (ftE xs = 2) := if_pos hl
  have HF := Lib.hid hf
  clear hf
  generalize hex : expand n d = ex at *
  have HEX := Lib.hid hex
  clear hex
  have tok1 : True := trivial
  have h0 := h.alloc (.cells #[.int .i64 n, .int .i64 d] 24)
  go_enter Try.func3, Try.ntmps3
  go_wp2_with (first
    | (go_at_call 6; refine (fromTwists_c _ _ _ _ h0).mono ?_; rw [HV.out, HE.out]; rintro e w1 ⟨rfl, hb1⟩; have z1 := hb1.size; simp at z1; have F1 := ((Fr.new w (n, d)).below hb1 (by simp)).alloc (.cells #[.int .i64 0, .int .i64 0] 24); have G1 := Fr.new w1 (0, 0); have a0 := F1.c0; have a1 := F1.c1)
    | (go_at_call 7; refine (expand_ok n d _ HF.out).mono ?_; rw [HEX.out]; rintro e w2 ⟨A2, cap2, rfl, hI2, hb2⟩; clear a0 a1; have z2 := hb2.size; simp at z2; have F2 := F1.below hb2 F1.lt; have G2 := G1.below hb2 G1.lt; have b0 := F2.c0; have b1 := F2.c1)
    | (go_at_call 8; have _t := tok1; refine (ffault_c n d _).mono ?_; rw [HF.out]; rintro e w3 ⟨rfl, hb3⟩; clear tok1 b0 b1; have z3 := hb3.size; have F3 := F2.below hb3 F2.lt; have G3 := G2.below hb3 G2.lt; have c0 := F3.c0; have c1 := F3.c1)
    | (go_at_call 9; refine (twistedF_c _).mono ?_; rintro e w4 ⟨rfl, hb4⟩; clear c0 c1; have z4 := hb4.size; have F4 := F3.below hb4 F3.lt; have G4 := G3.below hb4 G3.lt; have d0 := F4.c0; have d1 := F4.c1)
    | (go_at_call 10; refine (tcheck_c n d _).mono ?_; rw [HF.out]; rintro e w5 ⟨rfl, hb5⟩; clear d0 d1; have z5 := hb5.size; have F5 := F4.below hb5 F4.lt; have G5 := G4.below hb5 G4.lt; have e0 := F5.c0; have e1 := F5.c1)
    | (go_at_call 11; refine (chain_c n d _ HF.out).mono ?_; rw [HEX.out]; rintro e w6 ⟨A6, cap6, rfl, hI6, hb6⟩; clear e0 e1; have z6 := hb6.size; have G6 := G5.below hb6 G5.lt)
    | (go_at_call 15; have hx := ((((((Below.refl w2.heap.size w2)).trans (hb3.mono (by omega))).trans (hb4.mono (by omega))).trans (hb5.mono (by omega))).trans (hb6.mono (by omega))).alloc (by omega) (.cells #[.int .i64 0, .int .i64 0] 24); have hy := ((Below.refl w6.heap.size w6)).alloc (by omega) (.cells #[.int .i64 0, .int .i64 0] 24); have hw := (((((((((Below.refl w.heap.size w).alloc (Nat.le_refl _) (.cells #[.int .i64 n, .int .i64 d] 24)).trans (hb1.mono (by simp))).alloc (by omega) (.cells #[.int .i64 0, .int .i64 0] 24)).trans (hb2.mono (by (simp; try omega)))).trans (hb3.mono (by omega))).trans (hb4.mono (by omega))).trans (hb5.mono (by omega))).trans (hb6.mono (by omega))).alloc (by omega) (.cells #[.int .i64 0, .int .i64 0] 24); refine (equal_c _ _ _ _ ex ex _ (hI2.below hx (Nat.le_refl _)) (hI6.below hy (Nat.le_refl _))).mono ?_; rw [decide_eq_true rfl]; rintro e w9 ⟨rfl, hb9⟩; have G9 := (G6.alloc (.cells #[.int .i64 0, .int .i64 0] 24)).below hb9 (G6.alloc (.cells #[.int .i64 0, .int .i64 0] 24)).lt; have W9 := (Fr.new w6 (0, 0)).below hb9 (Fr.new w6 (0, 0)).lt; have g0 := G9.c0; have g1 := G9.c1; have v0 := W9.c0; have v1 := W9.c1))
  go_ret
  exact ⟨rfl, hw.trans (hb9.mono hw.size)⟩

set_option maxRecDepth 100000 in
set_option maxHeartbeats 4000000 in
theorem tw_L2_bad (A : Option Addr) (cap : Nat) (xs : List Int) (n d : Int) (w : World) (h : IsInts w A cap xs) (hf : faultF n d ≠ 0) (hl : ¬ 12 < xs.length) (hany : xs.any big9 = true) :
    Calls Try.prog 3 #[.slice A xs.length cap, .agg #[.int .i64 n, .int .i64 d]] w fun e w' => e = .returned (.bool true) ∧ Below w.heap.size w w' := by
  have HV : Hid (ftV xs = .agg #[.int .i64 0, .int .i64 0]) := by unfold Hid ftV; rw [if_neg hl, if_pos hany]
  have HE : Hid (ftE xs = 1) := by unfold Hid ftE; rw [if_neg hl, if_pos hany]
  have HA := Lib.hid hany
  clear hany
  have hf2 : (faultF n d != 0) = true := by simpa using hf
  have hf3 : (faultF n d == 0) = false := by simpa using hf
  have HF := Lib.hid hf
  clear hf
  have tok1 : True := trivial
  have h0 := h.alloc (.cells #[.int .i64 n, .int .i64 d] 24)
  go_enter Try.func3, Try.ntmps3
  go_wp2_with (first
    | (go_at_call 6; refine (fromTwists_c _ _ _ _ h0).mono ?_; rw [HV.out, HE.out]; rintro e w1 ⟨rfl, hb1⟩; have z1 := hb1.size; simp at z1; have F1 := ((Fr.new w (n, d)).below hb1 (by simp)).alloc (.cells #[.int .i64 0, .int .i64 0] 24); have G1 := Fr.new w1 (0, 0); have a0 := F1.c0; have a1 := F1.c1)
    | (go_at_call 7; refine (expand_fault n d _ HF.out).mono ?_; rintro e w2 ⟨rfl, hb2⟩; clear a0 a1; have z2 := hb2.size; simp at z2; have F2 := F1.below hb2 F1.lt; have G2 := G1.below hb2 G1.lt; have b0 := F2.c0; have b1 := F2.c1)
    | (go_at_call 8; have _t := tok1; refine (ffault_c n d _).mono ?_; rintro e w3 ⟨rfl, hb3⟩; clear tok1 b0 b1; have z3 := hb3.size; have F3 := F2.below hb3 F2.lt; have G3 := G2.below hb3 G2.lt; have c0 := F3.c0; have c1 := F3.c1)
    | (go_at_call 9; refine (twistedF_c _).mono ?_; rintro e w4 ⟨rfl, hb4⟩; clear c0 c1; have z4 := hb4.size; have F4 := F3.below hb4 F3.lt; have G4 := G3.below hb4 G3.lt; have d0 := F4.c0; have d1 := F4.c1)
    | (go_at_call 10; refine (tcheck_c n d _).mono ?_; rintro e w5 ⟨rfl, hb5⟩; clear d0 d1; have z5 := hb5.size; have F5 := F4.below hb5 F4.lt; have G5 := G4.below hb5 G4.lt; have e0 := F5.c0; have e1 := F5.c1)
    | (go_at_call 12; refine (containsFunc_b A cap xs _ (h.below (((((((((Below.refl w.heap.size w).alloc (Nat.le_refl _) (.cells #[.int .i64 n, .int .i64 d] 24)).trans (hb1.mono (by simp))).alloc (by omega) (.cells #[.int .i64 0, .int .i64 0] 24)).trans (hb2.mono (by (simp; try omega)))).trans (hb3.mono (by omega))).trans (hb4.mono (by omega))).trans (hb5.mono (by omega))).alloc (by omega) (.cells #[.int .i64 0, .int .i64 0] 24)) (Nat.le_refl _)) true HA.out.symm).mono ?_; rintro e w' ⟨rfl, rfl⟩)
    | (go_at_call 15; have hw := ((((((((Below.refl w.heap.size w).alloc (Nat.le_refl _) (.cells #[.int .i64 n, .int .i64 d] 24)).trans (hb1.mono (by simp))).alloc (by omega) (.cells #[.int .i64 0, .int .i64 0] 24)).trans (hb2.mono (by (simp; try omega)))).trans (hb3.mono (by omega))).trans (hb4.mono (by omega))).trans (hb5.mono (by omega))).alloc (by omega) (.cells #[.int .i64 0, .int .i64 0] 24); refine (equal_c none none 0 0 [] [] _ (IsInts.nil _ _ _ (by omega)) (IsInts.nil _ _ _ (by omega))).mono ?_; rw [decide_eq_true rfl]; rintro e w9 ⟨rfl, hb9⟩; have G9 := (G5.alloc (.cells #[.int .i64 0, .int .i64 0] 24)).below hb9 (G5.alloc (.cells #[.int .i64 0, .int .i64 0] 24)).lt; have W9 := (Fr.new w5 (0, 0)).below hb9 (Fr.new w5 (0, 0)).lt; have g0 := G9.c0; have g1 := G9.c1; have v0 := W9.c0; have v1 := W9.c1))
  go_ret
  exact ⟨rfl, hw.trans (hb9.mono hw.size)⟩

set_option maxRecDepth 100000 in
set_option maxHeartbeats 4000000 in
theorem tw_L2_ok (A : Option Addr) (cap : Nat) (xs : List Int) (n d : Int) (w : World) (h : IsInts w A cap xs) (hf : faultF n d = 0) (hl : ¬ 12 < xs.length) (hany : xs.any big9 = true) :
    Calls Try.prog 3 #[.slice A xs.length cap, .agg #[.int .i64 n, .int .i64 d]] w fun e w' => e = .returned (.bool true) ∧ Below w.heap.size w w' := by
  have HV : Hid (ftV xs = .agg #[.int .i64 0, .int .i64 0]) := by unfold Hid ftV; rw [if_neg hl, if_pos hany]
  have HE : Hid (ftE xs = 1) := by unfold Hid ftE; rw [if_neg hl, if_pos hany]
  have HA := Lib.hid hany
  clear hany
  have HF := Lib.hid hf
  clear hf
  generalize hex : expand n d = ex at *
  have HEX := Lib.hid hex
  clear hex
  have tok1 : True := trivial
  have h0 := h.alloc (.cells #[.int .i64 n, .int .i64 d] 24)
  go_enter Try.func3, Try.ntmps3
  go_wp2_with (first
    | (go_at_call 6; refine (fromTwists_c _ _ _ _ h0).mono ?_; rw [HV.out, HE.out]; rintro e w1 ⟨rfl, hb1⟩; have z1 := hb1.size; simp at z1; have F1 := ((Fr.new w (n, d)).below hb1 (by simp)).alloc (.cells #[.int .i64 0, .int .i64 0] 24); have G1 := Fr.new w1 (0, 0); have a0 := F1.c0; have a1 := F1.c1)
    | (go_at_call 7; refine (expand_ok n d _ HF.out).mono ?_; rw [HEX.out]; rintro e w2 ⟨A2, cap2, rfl, hI2, hb2⟩; clear a0 a1; have z2 := hb2.size; simp at z2; have F2 := F1.below hb2 F1.lt; have G2 := G1.below hb2 G1.lt; have b0 := F2.c0; have b1 := F2.c1)
    | (go_at_call 8; have _t := tok1; refine (ffault_c n d _).mono ?_; rw [HF.out]; rintro e w3 ⟨rfl, hb3⟩; clear tok1 b0 b1; have z3 := hb3.size; have F3 := F2.below hb3 F2.lt; have G3 := G2.below hb3 G2.lt; have c0 := F3.c0; have c1 := F3.c1)
    | (go_at_call 9; refine (twistedF_c _).mono ?_; rintro e w4 ⟨rfl, hb4⟩; clear c0 c1; have z4 := hb4.size; have F4 := F3.below hb4 F3.lt; have G4 := G3.below hb4 G3.lt; have d0 := F4.c0; have d1 := F4.c1)
    | (go_at_call 10; refine (tcheck_c n d _).mono ?_; rw [HF.out]; rintro e w5 ⟨rfl, hb5⟩; clear d0 d1; have z5 := hb5.size; have F5 := F4.below hb5 F4.lt; have G5 := G4.below hb5 G4.lt; have e0 := F5.c0; have e1 := F5.c1)
    | (go_at_call 11; refine (chain_c n d _ HF.out).mono ?_; rw [HEX.out]; rintro e w6 ⟨A6, cap6, rfl, hI6, hb6⟩; clear e0 e1; have z6 := hb6.size; have G6 := G5.below hb6 G5.lt)
    | (go_at_call 12; refine (containsFunc_b A cap xs _ (h.below ((((((((((Below.refl w.heap.size w).alloc (Nat.le_refl _) (.cells #[.int .i64 n, .int .i64 d] 24)).trans (hb1.mono (by simp))).alloc (by omega) (.cells #[.int .i64 0, .int .i64 0] 24)).trans (hb2.mono (by (simp; try omega)))).trans (hb3.mono (by omega))).trans (hb4.mono (by omega))).trans (hb5.mono (by omega))).trans (hb6.mono (by omega))).alloc (by omega) (.cells #[.int .i64 0, .int .i64 0] 24)) (Nat.le_refl _)) true HA.out.symm).mono ?_; rintro e w' ⟨rfl, rfl⟩)
    | (go_at_call 15; have hx := ((((((Below.refl w2.heap.size w2)).trans (hb3.mono (by omega))).trans (hb4.mono (by omega))).trans (hb5.mono (by omega))).trans (hb6.mono (by omega))).alloc (by omega) (.cells #[.int .i64 0, .int .i64 0] 24); have hy := ((Below.refl w6.heap.size w6)).alloc (by omega) (.cells #[.int .i64 0, .int .i64 0] 24); have hw := (((((((((Below.refl w.heap.size w).alloc (Nat.le_refl _) (.cells #[.int .i64 n, .int .i64 d] 24)).trans (hb1.mono (by simp))).alloc (by omega) (.cells #[.int .i64 0, .int .i64 0] 24)).trans (hb2.mono (by (simp; try omega)))).trans (hb3.mono (by omega))).trans (hb4.mono (by omega))).trans (hb5.mono (by omega))).trans (hb6.mono (by omega))).alloc (by omega) (.cells #[.int .i64 0, .int .i64 0] 24); refine (equal_c _ _ _ _ ex ex _ (hI2.below hx (Nat.le_refl _)) (hI6.below hy (Nat.le_refl _))).mono ?_; rw [decide_eq_true rfl]; rintro e w9 ⟨rfl, hb9⟩; have G9 := (G6.alloc (.cells #[.int .i64 0, .int .i64 0] 24)).below hb9 (G6.alloc (.cells #[.int .i64 0, .int .i64 0] 24)).lt; have W9 := (Fr.new w6 (0, 0)).below hb9 (Fr.new w6 (0, 0)).lt; have g0 := G9.c0; have g1 := G9.c1; have v0 := W9.c0; have v1 := W9.c1))
  go_ret
  exact ⟨rfl, hw.trans (hb9.mono hw.size)⟩

set_option maxRecDepth 100000 in
set_option maxHeartbeats 4000000 in
theorem tw_L3_bad (A : Option Addr) (cap : Nat) (xs : List Int) (n d : Int) (w : World) (h : IsInts w A cap xs) (hf : faultF n d ≠ 0) (hl : ¬ 12 < xs.length) (hany : xs.any big9 = false) (ht : faultF (twist xs).1 (twist xs).2 = 0) :
    Calls Try.prog 3 #[.slice A xs.length cap, .agg #[.int .i64 n, .int .i64 d]] w fun e w' => e = .returned (.bool true) ∧ Below w.heap.size w w' := by
  have HS := Lib.hid (small9 hany)
  have HL12 : xs.length ≤ 12 := by omega
  have HV : Hid (ftV xs = .agg #[.int .i64 (twist xs).1, .int .i64 (twist xs).2]) := by unfold Hid ftV fitV; rw [if_neg hl, if_neg (by rw [hany]; decide), if_pos ht]
  have HE : Hid (ftE xs = 0) := by unfold Hid ftE fitE; rw [if_neg hl, if_neg (by rw [hany]; decide), if_pos ht]
  have HA := Lib.hid hany
  clear hany
  obtain ⟨⟨tn, td⟩, hp⟩ : ∃ p, twist xs = p := ⟨_, rfl⟩
  rw [hp] at HV ht
  have HP : Hid (frac (twist xs) = .agg #[.int .i64 tn, .int .i64 td]) := by rw [hp]; rfl
  clear hp
  have HT := Lib.hid ht
  clear ht
  have hf2 : (faultF n d != 0) = true := by simpa using hf
  have hf3 : (faultF n d == 0) = false := by simpa using hf
  have HF := Lib.hid hf
  clear hf
  have tok1 : True := trivial
  have h0 := h.alloc (.cells #[.int .i64 n, .int .i64 d] 24)
  go_enter Try.func3, Try.ntmps3
  go_wp2_with (first
    | (go_at_call 6; refine (fromTwists_c _ _ _ _ h0).mono ?_; rw [HV.out, HE.out]; rintro e w1 ⟨rfl, hb1⟩; have z1 := hb1.size; simp at z1; have F1 := ((Fr.new w (n, d)).below hb1 (by simp)).alloc (.cells #[.int .i64 tn, .int .i64 td] 24); have G1 := Fr.new w1 (tn, td); have a0 := F1.c0; have a1 := F1.c1)
    | (go_at_call 7; refine (expand_fault n d _ HF.out).mono ?_; rintro e w2 ⟨rfl, hb2⟩; clear a0 a1; have z2 := hb2.size; simp at z2; have F2 := F1.below hb2 F1.lt; have G2 := G1.below hb2 G1.lt; have b0 := F2.c0; have b1 := F2.c1)
    | (go_at_call 8; have _t := tok1; refine (ffault_c n d _).mono ?_; rintro e w3 ⟨rfl, hb3⟩; clear tok1 b0 b1; have z3 := hb3.size; have F3 := F2.below hb3 F2.lt; have G3 := G2.below hb3 G2.lt; have c0 := F3.c0; have c1 := F3.c1)
    | (go_at_call 9; refine (twistedF_c _).mono ?_; rintro e w4 ⟨rfl, hb4⟩; clear c0 c1; have z4 := hb4.size; have F4 := F3.below hb4 F3.lt; have G4 := G3.below hb4 G3.lt; have d0 := F4.c0; have d1 := F4.c1)
    | (go_at_call 10; refine (tcheck_c n d _).mono ?_; rintro e w5 ⟨rfl, hb5⟩; clear d0 d1; have z5 := hb5.size; have F5 := F4.below hb5 F4.lt; have G5 := G4.below hb5 G4.lt; have e0 := F5.c0; have e1 := F5.c1)
    | (go_at_call 12; refine (containsFunc_b A cap xs _ (h.below (((((((((Below.refl w.heap.size w).alloc (Nat.le_refl _) (.cells #[.int .i64 n, .int .i64 d] 24)).trans (hb1.mono (by simp))).alloc (by omega) (.cells #[.int .i64 tn, .int .i64 td] 24)).trans (hb2.mono (by (simp; try omega)))).trans (hb3.mono (by omega))).trans (hb4.mono (by omega))).trans (hb5.mono (by omega))).alloc (by omega) (.cells #[.int .i64 0, .int .i64 0] 24)) (Nat.le_refl _)) false HA.out.symm).mono ?_; rintro e w' ⟨rfl, rfl⟩)
    | (go_at_call 14; refine (twisted_c A cap xs _ (h.below (((((((((Below.refl w.heap.size w).alloc (Nat.le_refl _) (.cells #[.int .i64 n, .int .i64 d] 24)).trans (hb1.mono (by simp))).alloc (by omega) (.cells #[.int .i64 tn, .int .i64 td] 24)).trans (hb2.mono (by (simp; try omega)))).trans (hb3.mono (by omega))).trans (hb4.mono (by omega))).trans (hb5.mono (by omega))).alloc (by omega) (.cells #[.int .i64 0, .int .i64 0] 24)) (Nat.le_refl _)) HL12 HS.out).mono ?_; rw [HP.out]; rintro e w7 ⟨rfl, hb7⟩; have z7 := hb7.size; simp at z7; have G7 := (G5.alloc (.cells #[.int .i64 0, .int .i64 0] 24)).below hb7 (G5.alloc (.cells #[.int .i64 0, .int .i64 0] 24)).lt; have W7 := (Fr.new w5 (0, 0)).below hb7 (Fr.new w5 (0, 0)).lt; have W7' := W7.put tn td; have p0 := W7.c0; have p1 := W7.c1; have p2 := W7.f 0; have p3 := W7.f 1; have q0 := W7'.c0; have q1 := W7'.c1)
    | (go_at_call 8; refine (ffault_c tn td _).mono ?_; rw [HT.out]; rintro e w8 ⟨rfl, hb8⟩; have z8 := hb8.size; simp [World.setCell] at z8; clear p0 p1 p2 p3 q0 q1; have G8 := (G7.of_block (by rw [Below.heap_setCell _ _ _ _ (by (simp; try omega)), Below.heap_setCell _ _ _ _ (by (simp; try omega))])).below hb8 (by (simp [World.setCell]; try omega)); have W8 := W7'.below hb8 W7'.lt; have r0 := W8.c0; have r1 := W8.c1; have r2 := W8.f 0; have r3 := W8.f 1; have r4 := (W8.put 0 0).c0; have r5 := (W8.put 0 0).c1)
    | (go_at_call 15; have hw := ((((((((((((Below.refl w.heap.size w).alloc (Nat.le_refl _) (.cells #[.int .i64 n, .int .i64 d] 24)).trans (hb1.mono (by simp))).alloc (by omega) (.cells #[.int .i64 tn, .int .i64 td] 24)).trans (hb2.mono (by (simp; try omega)))).trans (hb3.mono (by omega))).trans (hb4.mono (by omega))).trans (hb5.mono (by omega))).alloc (by omega) (.cells #[.int .i64 0, .int .i64 0] 24)).trans (hb7.mono (by (simp; try omega)))).setCell (p := ⟨w5.heap.size, 0, none⟩) (by show _ ≤ w5.heap.size; omega) (.int .i64 tn)).setCell (p := ⟨w5.heap.size, 1, none⟩) (by show _ ≤ w5.heap.size; omega) (.int .i64 td)).trans (hb8.mono (by (simp [World.setCell]; try omega))); refine (equal_c none none 0 0 [] [] _ (IsInts.nil _ _ _ (by omega)) (IsInts.nil _ _ _ (by omega))).mono ?_; rw [decide_eq_true rfl]; rintro e w9 ⟨rfl, hb9⟩; have G9 := G8.below hb9 G8.lt; have W9 := W8.below hb9 W8.lt; have g0 := G9.c0; have g1 := G9.c1; have v0 := W9.c0; have v1 := W9.c1))
  go_ret
  exact ⟨rfl, hw.trans (hb9.mono hw.size)⟩

set_option maxRecDepth 100000 in
set_option maxHeartbeats 4000000 in
theorem tw_L3_ok (A : Option Addr) (cap : Nat) (xs : List Int) (n d : Int) (w : World) (h : IsInts w A cap xs) (hf : faultF n d = 0) (hl : ¬ 12 < xs.length) (hany : xs.any big9 = false) (ht : faultF (twist xs).1 (twist xs).2 = 0) :
    Calls Try.prog 3 #[.slice A xs.length cap, .agg #[.int .i64 n, .int .i64 d]] w fun e w' => e = .returned (.bool true) ∧ Below w.heap.size w w' := by
  have HS := Lib.hid (small9 hany)
  have HL12 : xs.length ≤ 12 := by omega
  have HV : Hid (ftV xs = .agg #[.int .i64 (twist xs).1, .int .i64 (twist xs).2]) := by unfold Hid ftV fitV; rw [if_neg hl, if_neg (by rw [hany]; decide), if_pos ht]
  have HE : Hid (ftE xs = 0) := by unfold Hid ftE fitE; rw [if_neg hl, if_neg (by rw [hany]; decide), if_pos ht]
  have HA := Lib.hid hany
  clear hany
  obtain ⟨⟨tn, td⟩, hp⟩ : ∃ p, twist xs = p := ⟨_, rfl⟩
  rw [hp] at HV ht
  have HP : Hid (frac (twist xs) = .agg #[.int .i64 tn, .int .i64 td]) := by rw [hp]; rfl
  clear hp
  have HT := Lib.hid ht
  clear ht
  have HF := Lib.hid hf
  clear hf
  generalize hex : expand n d = ex at *
  have HEX := Lib.hid hex
  clear hex
  have tok1 : True := trivial
  have h0 := h.alloc (.cells #[.int .i64 n, .int .i64 d] 24)
  go_enter Try.func3, Try.ntmps3
  go_wp2_with (first
    | (go_at_call 6; refine (fromTwists_c _ _ _ _ h0).mono ?_; rw [HV.out, HE.out]; rintro e w1 ⟨rfl, hb1⟩; have z1 := hb1.size; simp at z1; have F1 := ((Fr.new w (n, d)).below hb1 (by simp)).alloc (.cells #[.int .i64 tn, .int .i64 td] 24); have G1 := Fr.new w1 (tn, td); have a0 := F1.c0; have a1 := F1.c1)
    | (go_at_call 7; refine (expand_ok n d _ HF.out).mono ?_; rw [HEX.out]; rintro e w2 ⟨A2, cap2, rfl, hI2, hb2⟩; clear a0 a1; have z2 := hb2.size; simp at z2; have F2 := F1.below hb2 F1.lt; have G2 := G1.below hb2 G1.lt; have b0 := F2.c0; have b1 := F2.c1)
    | (go_at_call 8; have _t := tok1; refine (ffault_c n d _).mono ?_; rw [HF.out]; rintro e w3 ⟨rfl, hb3⟩; clear tok1 b0 b1; have z3 := hb3.size; have F3 := F2.below hb3 F2.lt; have G3 := G2.below hb3 G2.lt; have c0 := F3.c0; have c1 := F3.c1)
    | (go_at_call 9; refine (twistedF_c _).mono ?_; rintro e w4 ⟨rfl, hb4⟩; clear c0 c1; have z4 := hb4.size; have F4 := F3.below hb4 F3.lt; have G4 := G3.below hb4 G3.lt; have d0 := F4.c0; have d1 := F4.c1)
    | (go_at_call 10; refine (tcheck_c n d _).mono ?_; rw [HF.out]; rintro e w5 ⟨rfl, hb5⟩; clear d0 d1; have z5 := hb5.size; have F5 := F4.below hb5 F4.lt; have G5 := G4.below hb5 G4.lt; have e0 := F5.c0; have e1 := F5.c1)
    | (go_at_call 11; refine (chain_c n d _ HF.out).mono ?_; rw [HEX.out]; rintro e w6 ⟨A6, cap6, rfl, hI6, hb6⟩; clear e0 e1; have z6 := hb6.size; have G6 := G5.below hb6 G5.lt)
    | (go_at_call 12; refine (containsFunc_b A cap xs _ (h.below ((((((((((Below.refl w.heap.size w).alloc (Nat.le_refl _) (.cells #[.int .i64 n, .int .i64 d] 24)).trans (hb1.mono (by simp))).alloc (by omega) (.cells #[.int .i64 tn, .int .i64 td] 24)).trans (hb2.mono (by (simp; try omega)))).trans (hb3.mono (by omega))).trans (hb4.mono (by omega))).trans (hb5.mono (by omega))).trans (hb6.mono (by omega))).alloc (by omega) (.cells #[.int .i64 0, .int .i64 0] 24)) (Nat.le_refl _)) false HA.out.symm).mono ?_; rintro e w' ⟨rfl, rfl⟩)
    | (go_at_call 14; refine (twisted_c A cap xs _ (h.below ((((((((((Below.refl w.heap.size w).alloc (Nat.le_refl _) (.cells #[.int .i64 n, .int .i64 d] 24)).trans (hb1.mono (by simp))).alloc (by omega) (.cells #[.int .i64 tn, .int .i64 td] 24)).trans (hb2.mono (by (simp; try omega)))).trans (hb3.mono (by omega))).trans (hb4.mono (by omega))).trans (hb5.mono (by omega))).trans (hb6.mono (by omega))).alloc (by omega) (.cells #[.int .i64 0, .int .i64 0] 24)) (Nat.le_refl _)) HL12 HS.out).mono ?_; rw [HP.out]; rintro e w7 ⟨rfl, hb7⟩; have z7 := hb7.size; simp at z7; have G7 := (G6.alloc (.cells #[.int .i64 0, .int .i64 0] 24)).below hb7 (G6.alloc (.cells #[.int .i64 0, .int .i64 0] 24)).lt; have W7 := (Fr.new w6 (0, 0)).below hb7 (Fr.new w6 (0, 0)).lt; have W7' := W7.put tn td; have p0 := W7.c0; have p1 := W7.c1; have p2 := W7.f 0; have p3 := W7.f 1; have q0 := W7'.c0; have q1 := W7'.c1)
    | (go_at_call 8; refine (ffault_c tn td _).mono ?_; rw [HT.out]; rintro e w8 ⟨rfl, hb8⟩; have z8 := hb8.size; simp [World.setCell] at z8; clear p0 p1 p2 p3 q0 q1; have G8 := (G7.of_block (by rw [Below.heap_setCell _ _ _ _ (by (simp; try omega)), Below.heap_setCell _ _ _ _ (by (simp; try omega))])).below hb8 (by (simp [World.setCell]; try omega)); have W8 := W7'.below hb8 W7'.lt; have r0 := W8.c0; have r1 := W8.c1; have r2 := W8.f 0; have r3 := W8.f 1; have r4 := (W8.put 0 0).c0; have r5 := (W8.put 0 0).c1)
    | (go_at_call 15; have hx := ((((((((((Below.refl w2.heap.size w2)).trans (hb3.mono (by omega))).trans (hb4.mono (by omega))).trans (hb5.mono (by omega))).trans (hb6.mono (by omega))).alloc (by omega) (.cells #[.int .i64 0, .int .i64 0] 24)).trans (hb7.mono (by (simp; try omega)))).setCell (p := ⟨w6.heap.size, 0, none⟩) (by show _ ≤ w6.heap.size; omega) (.int .i64 tn)).setCell (p := ⟨w6.heap.size, 1, none⟩) (by show _ ≤ w6.heap.size; omega) (.int .i64 td)).trans (hb8.mono (by (simp [World.setCell]; try omega))); have hy := ((((((Below.refl w6.heap.size w6)).alloc (by omega) (.cells #[.int .i64 0, .int .i64 0] 24)).trans (hb7.mono (by (simp; try omega)))).setCell (p := ⟨w6.heap.size, 0, none⟩) (by show _ ≤ w6.heap.size; omega) (.int .i64 tn)).setCell (p := ⟨w6.heap.size, 1, none⟩) (by show _ ≤ w6.heap.size; omega) (.int .i64 td)).trans (hb8.mono (by (simp [World.setCell]; try omega))); have hw := (((((((((((((Below.refl w.heap.size w).alloc (Nat.le_refl _) (.cells #[.int .i64 n, .int .i64 d] 24)).trans (hb1.mono (by simp))).alloc (by omega) (.cells #[.int .i64 tn, .int .i64 td] 24)).trans (hb2.mono (by (simp; try omega)))).trans (hb3.mono (by omega))).trans (hb4.mono (by omega))).trans (hb5.mono (by omega))).trans (hb6.mono (by omega))).alloc (by omega) (.cells #[.int .i64 0, .int .i64 0] 24)).trans (hb7.mono (by (simp; try omega)))).setCell (p := ⟨w6.heap.size, 0, none⟩) (by show _ ≤ w6.heap.size; omega) (.int .i64 tn)).setCell (p := ⟨w6.heap.size, 1, none⟩) (by show _ ≤ w6.heap.size; omega) (.int .i64 td)).trans (hb8.mono (by (simp [World.setCell]; try omega))); refine (equal_c _ _ _ _ ex ex _ (hI2.below hx (Nat.le_refl _)) (hI6.below hy (Nat.le_refl _))).mono ?_; rw [decide_eq_true rfl]; rintro e w9 ⟨rfl, hb9⟩; have G9 := G8.below hb9 G8.lt; have W9 := W8.below hb9 W8.lt; have g0 := G9.c0; have g1 := G9.c1; have v0 := W9.c0; have v1 := W9.c1))
  go_ret
  exact ⟨rfl, hw.trans (hb9.mono hw.size)⟩

set_option maxRecDepth 100000 in
set_option maxHeartbeats 4000000 in
theorem tw_L4_bad (A : Option Addr) (cap : Nat) (xs : List Int) (n d : Int) (w : World) (h : IsInts w A cap xs) (hf : faultF n d ≠ 0) (hl : ¬ 12 < xs.length) (hany : xs.any big9 = false) (ht : faultF (twist xs).1 (twist xs).2 ≠ 0) :
    Calls Try.prog 3 #[.slice A xs.length cap, .agg #[.int .i64 n, .int .i64 d]] w fun e w' => e = .returned (.bool true) ∧ Below w.heap.size w w' := by
  have HS := Lib.hid (small9 hany)
  have HL12 : xs.length ≤ 12 := by omega
  have HV : Hid (ftV xs = .agg #[.int .i64 0, .int .i64 0]) := by unfold Hid ftV fitV; rw [if_neg hl, if_neg (by rw [hany]; decide), if_neg ht]
  have HE : Hid (ftE xs = 2) := by unfold Hid ftE fitE; rw [if_neg hl, if_neg (by rw [hany]; decide), if_neg ht]
  have ht2 : (faultF (twist xs).1 (twist xs).2 != 0) = true := by simpa using ht
  have HA := Lib.hid hany
  clear hany
  obtain ⟨⟨tn, td⟩, hp⟩ : ∃ p, twist xs = p := ⟨_, rfl⟩
  rw [hp] at ht ht2
  have HP : Hid (frac (twist xs) = .agg #[.int .i64 tn, .int .i64 td]) := by rw [hp]; rfl
  clear hp
  clear ht
  have hf2 : (faultF n d != 0) = true := by simpa using hf
  have hf3 : (faultF n d == 0) = false := by simpa using hf
  have HF := Lib.hid hf
  clear hf
  have tok1 : True := trivial
  have h0 := h.alloc (.cells #[.int .i64 n, .int .i64 d] 24)
  go_enter Try.func3, Try.ntmps3
  go_wp2_with (first
    | (go_at_call 6; refine (fromTwists_c _ _ _ _ h0).mono ?_; rw [HV.out, HE.out]; rintro e w1 ⟨rfl, hb1⟩; have z1 := hb1.size; simp at z1; have F1 := ((Fr.new w (n, d)).below hb1 (by simp)).alloc (.cells #[.int .i64 0, .int .i64 0] 24); have G1 := Fr.new w1 (0, 0); have a0 := F1.c0; have a1 := F1.c1)
    | (go_at_call 7; refine (expand_fault n d _ HF.out).mono ?_; rintro e w2 ⟨rfl, hb2⟩; clear a0 a1; have z2 := hb2.size; simp at z2; have F2 := F1.below hb2 F1.lt; have G2 := G1.below hb2 G1.lt; have b0 := F2.c0; have b1 := F2.c1)
    | (go_at_call 8; have _t := tok1; refine (ffault_c n d _).mono ?_; rintro e w3 ⟨rfl, hb3⟩; clear tok1 b0 b1; have z3 := hb3.size; have F3 := F2.below hb3 F2.lt; have G3 := G2.below hb3 G2.lt; have c0 := F3.c0; have c1 := F3.c1)
    | (go_at_call 9; refine (twistedF_c _).mono ?_; rintro e w4 ⟨rfl, hb4⟩; clear c0 c1; have z4 := hb4.size; have F4 := F3.below hb4 F3.lt; have G4 := G3.below hb4 G3.lt; have d0 := F4.c0; have d1 := F4.c1)
    | (go_at_call 10; refine (tcheck_c n d _).mono ?_; rintro e w5 ⟨rfl, hb5⟩; clear d0 d1; have z5 := hb5.size; have F5 := F4.below hb5 F4.lt; have G5 := G4.below hb5 G4.lt; have e0 := F5.c0; have e1 := F5.c1)
    | (go_at_call 12; refine (containsFunc_b A cap xs _ (h.below (((((((((Below.refl w.heap.size w).alloc (Nat.le_refl _) (.cells #[.int .i64 n, .int .i64 d] 24)).trans (hb1.mono (by simp))).alloc (by omega) (.cells #[.int .i64 0, .int .i64 0] 24)).trans (hb2.mono (by (simp; try omega)))).trans (hb3.mono (by omega))).trans (hb4.mono (by omega))).trans (hb5.mono (by omega))).alloc (by omega) (.cells #[.int .i64 0, .int .i64 0] 24)) (Nat.le_refl _)) false HA.out.symm).mono ?_; rintro e w' ⟨rfl, rfl⟩)
    | (go_at_call 14; refine (twisted_c A cap xs _ (h.below (((((((((Below.refl w.heap.size w).alloc (Nat.le_refl _) (.cells #[.int .i64 n, .int .i64 d] 24)).trans (hb1.mono (by simp))).alloc (by omega) (.cells #[.int .i64 0, .int .i64 0] 24)).trans (hb2.mono (by (simp; try omega)))).trans (hb3.mono (by omega))).trans (hb4.mono (by omega))).trans (hb5.mono (by omega))).alloc (by omega) (.cells #[.int .i64 0, .int .i64 0] 24)) (Nat.le_refl _)) HL12 HS.out).mono ?_; rw [HP.out]; rintro e w7 ⟨rfl, hb7⟩; have z7 := hb7.size; simp at z7; have G7 := (G5.alloc (.cells #[.int .i64 0, .int .i64 0] 24)).below hb7 (G5.alloc (.cells #[.int .i64 0, .int .i64 0] 24)).lt; have W7 := (Fr.new w5 (0, 0)).below hb7 (Fr.new w5 (0, 0)).lt; have W7' := W7.put tn td; have p0 := W7.c0; have p1 := W7.c1; have p2 := W7.f 0; have p3 := W7.f 1; have q0 := W7'.c0; have q1 := W7'.c1)
    | (go_at_call 8; refine (ffault_c tn td _).mono ?_; rintro e w8 ⟨rfl, hb8⟩; have z8 := hb8.size; simp [World.setCell] at z8; clear p0 p1 p2 p3 q0 q1; have G8 := (G7.of_block (by rw [Below.heap_setCell _ _ _ _ (by (simp; try omega)), Below.heap_setCell _ _ _ _ (by (simp; try omega))])).below hb8 (by (simp [World.setCell]; try omega)); have W8 := W7'.below hb8 W7'.lt; have r0 := W8.c0; have r1 := W8.c1; have r2 := W8.f 0; have r3 := W8.f 1; have r4 := (W8.put 0 0).c0; have r5 := (W8.put 0 0).c1)
    | (go_at_call 15; have hw := ((((((((((((((Below.refl w.heap.size w).alloc (Nat.le_refl _) (.cells #[.int .i64 n, .int .i64 d] 24)).trans (hb1.mono (by simp))).alloc (by omega) (.cells #[.int .i64 0, .int .i64 0] 24)).trans (hb2.mono (by (simp; try omega)))).trans (hb3.mono (by omega))).trans (hb4.mono (by omega))).trans (hb5.mono (by omega))).alloc (by omega) (.cells #[.int .i64 0, .int .i64 0] 24)).trans (hb7.mono (by (simp; try omega)))).setCell (p := ⟨w5.heap.size, 0, none⟩) (by show _ ≤ w5.heap.size; omega) (.int .i64 tn)).setCell (p := ⟨w5.heap.size, 1, none⟩) (by show _ ≤ w5.heap.size; omega) (.int .i64 td)).trans (hb8.mono (by (simp [World.setCell]; try omega)))).setCell (p := ⟨w5.heap.size, 0, none⟩) (by show _ ≤ w5.heap.size; omega) (.int .i64 0)).setCell (p := ⟨w5.heap.size, 1, none⟩) (by show _ ≤ w5.heap.size; omega) (.int .i64 0); refine (equal_c none none 0 0 [] [] _ (IsInts.nil _ _ _ (by omega)) (IsInts.nil _ _ _ (by omega))).mono ?_; rw [decide_eq_true rfl]; rintro e w9 ⟨rfl, hb9⟩; have G9 := (G8.of_block (w' := (w8.setCell ⟨w5.heap.size, 0, none⟩ (.int .i64 0)).setCell ⟨w5.heap.size, 1, none⟩ (.int .i64 0)) (by rw [Below.heap_setCell _ _ _ _ (by (simp; try omega)), Below.heap_setCell _ _ _ _ (by (simp; try omega))])).below hb9 (by (simp [World.setCell]; try omega)); have W9 := (W8.put 0 0).below hb9 (W8.put 0 0).lt; have g0 := G9.c0; have g1 := G9.c1; have v0 := W9.c0; have v1 := W9.c1))
  go_ret
  exact ⟨rfl, hw.trans (hb9.mono hw.size)⟩

set_option maxRecDepth 100000 in
set_option maxHeartbeats 4000000 in
theorem tw_L4_ok (A : Option Addr) (cap : Nat) (xs : List Int) (n d : Int) (w : World) (h : IsInts w A cap xs) (hf : faultF n d = 0) (hl : ¬ 12 < xs.length) (hany : xs.any big9 = false) (ht : faultF (twist xs).1 (twist xs).2 ≠ 0) :
    Calls Try.prog 3 #[.slice A xs.length cap, .agg #[.int .i64 n, .int .i64 d]] w fun e w' => e = .returned (.bool true) ∧ Below w.heap.size w w' := by
  have HS := Lib.hid (small9 hany)
  have HL12 : xs.length ≤ 12 := by omega
  have HV : Hid (ftV xs = .agg #[.int .i64 0, .int .i64 0]) := by unfold Hid ftV fitV; rw [if_neg hl, if_neg (by rw [hany]; decide), if_neg ht]
  have HE : Hid (ftE xs = 2) := by unfold Hid ftE fitE; rw [if_neg hl, if_neg (by rw [hany]; decide), if_neg ht]
  have ht2 : (faultF (twist xs).1 (twist xs).2 != 0) = true := by simpa using ht
  have HA := Lib.hid hany
  clear hany
  obtain ⟨⟨tn, td⟩, hp⟩ : ∃ p, twist xs = p := ⟨_, rfl⟩
  rw [hp] at ht ht2
  have HP : Hid (frac (twist xs) = .agg #[.int .i64 tn, .int .i64 td]) := by rw [hp]; rfl
  clear hp
  clear ht
  have HF := Lib.hid hf
  clear hf
  generalize hex : expand n d = ex at *
  have HEX := Lib.hid hex
  clear hex
  have tok1 : True := trivial
  have h0 := h.alloc (.cells #[.int .i64 n, .int .i64 d] 24)
  go_enter Try.func3, Try.ntmps3
  go_wp2_with (first
    | (go_at_call 6; refine (fromTwists_c _ _ _ _ h0).mono ?_; rw [HV.out, HE.out]; rintro e w1 ⟨rfl, hb1⟩; have z1 := hb1.size; simp at z1; have F1 := ((Fr.new w (n, d)).below hb1 (by simp)).alloc (.cells #[.int .i64 0, .int .i64 0] 24); have G1 := Fr.new w1 (0, 0); have a0 := F1.c0; have a1 := F1.c1)
    | (go_at_call 7; refine (expand_ok n d _ HF.out).mono ?_; rw [HEX.out]; rintro e w2 ⟨A2, cap2, rfl, hI2, hb2⟩; clear a0 a1; have z2 := hb2.size; simp at z2; have F2 := F1.below hb2 F1.lt; have G2 := G1.below hb2 G1.lt; have b0 := F2.c0; have b1 := F2.c1)
    | (go_at_call 8; have _t := tok1; refine (ffault_c n d _).mono ?_; rw [HF.out]; rintro e w3 ⟨rfl, hb3⟩; clear tok1 b0 b1; have z3 := hb3.size; have F3 := F2.below hb3 F2.lt; have G3 := G2.below hb3 G2.lt; have c0 := F3.c0; have c1 := F3.c1)
    | (go_at_call 9; refine (twistedF_c _).mono ?_; rintro e w4 ⟨rfl, hb4⟩; clear c0 c1; have z4 := hb4.size; have F4 := F3.below hb4 F3.lt; have G4 := G3.below hb4 G3.lt; have d0 := F4.c0; have d1 := F4.c1)
    | (go_at_call 10; refine (tcheck_c n d _).mono ?_; rw [HF.out]; rintro e w5 ⟨rfl, hb5⟩; clear d0 d1; have z5 := hb5.size; have F5 := F4.below hb5 F4.lt; have G5 := G4.below hb5 G4.lt; have e0 := F5.c0; have e1 := F5.c1)
    | (go_at_call 11; refine (chain_c n d _ HF.out).mono ?_; rw [HEX.out]; rintro e w6 ⟨A6, cap6, rfl, hI6, hb6⟩; clear e0 e1; have z6 := hb6.size; have G6 := G5.below hb6 G5.lt)
    | (go_at_call 12; refine (containsFunc_b A cap xs _ (h.below ((((((((((Below.refl w.heap.size w).alloc (Nat.le_refl _) (.cells #[.int .i64 n, .int .i64 d] 24)).trans (hb1.mono (by simp))).alloc (by omega) (.cells #[.int .i64 0, .int .i64 0] 24)).trans (hb2.mono (by (simp; try omega)))).trans (hb3.mono (by omega))).trans (hb4.mono (by omega))).trans (hb5.mono (by omega))).trans (hb6.mono (by omega))).alloc (by omega) (.cells #[.int .i64 0, .int .i64 0] 24)) (Nat.le_refl _)) false HA.out.symm).mono ?_; rintro e w' ⟨rfl, rfl⟩)
    | (go_at_call 14; refine (twisted_c A cap xs _ (h.below ((((((((((Below.refl w.heap.size w).alloc (Nat.le_refl _) (.cells #[.int .i64 n, .int .i64 d] 24)).trans (hb1.mono (by simp))).alloc (by omega) (.cells #[.int .i64 0, .int .i64 0] 24)).trans (hb2.mono (by (simp; try omega)))).trans (hb3.mono (by omega))).trans (hb4.mono (by omega))).trans (hb5.mono (by omega))).trans (hb6.mono (by omega))).alloc (by omega) (.cells #[.int .i64 0, .int .i64 0] 24)) (Nat.le_refl _)) HL12 HS.out).mono ?_; rw [HP.out]; rintro e w7 ⟨rfl, hb7⟩; have z7 := hb7.size; simp at z7; have G7 := (G6.alloc (.cells #[.int .i64 0, .int .i64 0] 24)).below hb7 (G6.alloc (.cells #[.int .i64 0, .int .i64 0] 24)).lt; have W7 := (Fr.new w6 (0, 0)).below hb7 (Fr.new w6 (0, 0)).lt; have W7' := W7.put tn td; have p0 := W7.c0; have p1 := W7.c1; have p2 := W7.f 0; have p3 := W7.f 1; have q0 := W7'.c0; have q1 := W7'.c1)
    | (go_at_call 8; refine (ffault_c tn td _).mono ?_; rintro e w8 ⟨rfl, hb8⟩; have z8 := hb8.size; simp [World.setCell] at z8; clear p0 p1 p2 p3 q0 q1; have G8 := (G7.of_block (by rw [Below.heap_setCell _ _ _ _ (by (simp; try omega)), Below.heap_setCell _ _ _ _ (by (simp; try omega))])).below hb8 (by (simp [World.setCell]; try omega)); have W8 := W7'.below hb8 W7'.lt; have r0 := W8.c0; have r1 := W8.c1; have r2 := W8.f 0; have r3 := W8.f 1; have r4 := (W8.put 0 0).c0; have r5 := (W8.put 0 0).c1)
    | (go_at_call 15; have hx := ((((((((((((Below.refl w2.heap.size w2)).trans (hb3.mono (by omega))).trans (hb4.mono (by omega))).trans (hb5.mono (by omega))).trans (hb6.mono (by omega))).alloc (by omega) (.cells #[.int .i64 0, .int .i64 0] 24)).trans (hb7.mono (by (simp; try omega)))).setCell (p := ⟨w6.heap.size, 0, none⟩) (by show _ ≤ w6.heap.size; omega) (.int .i64 tn)).setCell (p := ⟨w6.heap.size, 1, none⟩) (by show _ ≤ w6.heap.size; omega) (.int .i64 td)).trans (hb8.mono (by (simp [World.setCell]; try omega)))).setCell (p := ⟨w6.heap.size, 0, none⟩) (by show _ ≤ w6.heap.size; omega) (.int .i64 0)).setCell (p := ⟨w6.heap.size, 1, none⟩) (by show _ ≤ w6.heap.size; omega) (.int .i64 0); have hy := ((((((((Below.refl w6.heap.size w6)).alloc (by omega) (.cells #[.int .i64 0, .int .i64 0] 24)).trans (hb7.mono (by (simp; try omega)))).setCell (p := ⟨w6.heap.size, 0, none⟩) (by show _ ≤ w6.heap.size; omega) (.int .i64 tn)).setCell (p := ⟨w6.heap.size, 1, none⟩) (by show _ ≤ w6.heap.size; omega) (.int .i64 td)).trans (hb8.mono (by (simp [World.setCell]; try omega)))).setCell (p := ⟨w6.heap.size, 0, none⟩) (by show _ ≤ w6.heap.size; omega) (.int .i64 0)).setCell (p := ⟨w6.heap.size, 1, none⟩) (by show _ ≤ w6.heap.size; omega) (.int .i64 0); have hw := (((((((((((((((Below.refl w.heap.size w).alloc (Nat.le_refl _) (.cells #[.int .i64 n, .int .i64 d] 24)).trans (hb1.mono (by simp))).alloc (by omega) (.cells #[.int .i64 0, .int .i64 0] 24)).trans (hb2.mono (by (simp; try omega)))).trans (hb3.mono (by omega))).trans (hb4.mono (by omega))).trans (hb5.mono (by omega))).trans (hb6.mono (by omega))).alloc (by omega) (.cells #[.int .i64 0, .int .i64 0] 24)).trans (hb7.mono (by (simp; try omega)))).setCell (p := ⟨w6.heap.size, 0, none⟩) (by show _ ≤ w6.heap.size; omega) (.int .i64 tn)).setCell (p := ⟨w6.heap.size, 1, none⟩) (by show _ ≤ w6.heap.size; omega) (.int .i64 td)).trans (hb8.mono (by (simp [World.setCell]; try omega)))).setCell (p := ⟨w6.heap.size, 0, none⟩) (by show _ ≤ w6.heap.size; omega) (.int .i64 0)).setCell (p := ⟨w6.heap.size, 1, none⟩) (by show _ ≤ w6.heap.size; omega) (.int .i64 0); refine (equal_c _ _ _ _ ex ex _ (hI2.below hx (Nat.le_refl _)) (hI6.below hy (Nat.le_refl _))).mono ?_; rw [decide_eq_true rfl]; rintro e w9 ⟨rfl, hb9⟩; have G9 := (G8.of_block (w' := (w8.setCell ⟨w6.heap.size, 0, none⟩ (.int .i64 0)).setCell ⟨w6.heap.size, 1, none⟩ (.int .i64 0)) (by rw [Below.heap_setCell _ _ _ _ (by (simp; try omega)), Below.heap_setCell _ _ _ _ (by (simp; try omega))])).below hb9 (by (simp [World.setCell]; try omega)); have W9 := (W8.put 0 0).below hb9 (W8.put 0 0).lt; have g0 := G9.c0; have g1 := G9.c1; have v0 := W9.c0; have v1 := W9.c1))
  go_ret
  exact ⟨rfl, hw.trans (hb9.mono hw.size)⟩

theorem tangleTwists_walk (A : Option Addr) (cap : Nat) (xs : List Int) (n d : Int) (w : World) (h : IsInts w A cap xs) :
    Calls Try.prog 3 #[.slice A xs.length cap, .agg #[.int .i64 n, .int .i64 d]] w fun e w' => e = .returned (.bool true) ∧ Below w.heap.size w w' := by
  by_cases hf : faultF n d = 0
  · by_cases hl : 12 < xs.length
    · exact tw_L1_ok A cap xs n d w h hf hl
    · cases hany : xs.any big9
      · by_cases ht : faultF (twist xs).1 (twist xs).2 = 0
        · exact tw_L3_ok A cap xs n d w h hf hl hany ht
        · exact tw_L4_ok A cap xs n d w h hf hl hany ht
      · exact tw_L2_ok A cap xs n d w h hf hl hany
  · by_cases hl : 12 < xs.length
    · exact tw_L1_bad A cap xs n d w h hf hl
    · cases hany : xs.any big9
      · by_cases ht : faultF (twist xs).1 (twist xs).2 = 0
        · exact tw_L3_bad A cap xs n d w h hf hl hany ht
        · exact tw_L4_bad A cap xs n d w h hf hl hany ht
      · exact tw_L2_bad A cap xs n d w h hf hl hany
end Go.Proofs.Ythkbcgggbgkfmaa
