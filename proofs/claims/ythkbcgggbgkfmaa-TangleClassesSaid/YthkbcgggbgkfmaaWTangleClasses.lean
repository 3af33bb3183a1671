/- Contracts of functions of this seat, and plain facts for them: used by the claims. No condition of its own. -/
import Derived.Test.YthkbcgggbgkfmaaTClass
import Derived.Test.YthkbcgggbgkfmaaWTangleTwists
set_option linter.unusedVariables false
namespace Go.Proofs.Ythkbcgggbgkfmaa
open Go.RowKit

theorem two_new (w : World) (n d m c : Int) : Fr ((w.alloc (.cells #[.int .i64 n, .int .i64 d] 24)).alloc (.cells #[.int .i64 m, .int .i64 c] 24)) w.heap.size (n, d) ∧ Fr ((w.alloc (.cells #[.int .i64 n, .int .i64 d] 24)).alloc (.cells #[.int .i64 m, .int .i64 c] 24)) (w.heap.size + 1) (m, c) ∧ Below w.heap.size w ((w.alloc (.cells #[.int .i64 n, .int .i64 d] 24)).alloc (.cells #[.int .i64 m, .int .i64 c] 24)) :=
  ⟨(Fr.new w (n, d)).alloc _, Fr.new' (p := (m, c)) (by simp), ((Below.refl _ _).alloc (Nat.le_refl _) _).alloc (by simp) _⟩

theorem kd_uniq {n d X Y : Int} (hX : InvOk n d X) (hY : InvOk n d Y) : kd n d X = kd n d Y := by
  unfold kd
  by_cases hp : pOf n ≤ 1
  · rw [if_pos hp, if_pos hp]
  · rw [if_neg hp, if_neg hp, InvM.uniq (hX (by omega)) (hY (by omega))]

set_option maxRecDepth 100000 in
set_option maxHeartbeats 4000000 in
theorem tcl_A (n d m c : Int) (w : World) (hf : faultF n d ≠ 0) :
    Calls Try.prog 4 #[.agg #[.int .i64 n, .int .i64 d], .agg #[.int .i64 m, .int .i64 c]] w fun e w' => e = .returned (.bool true) ∧ Below w.heap.size w w' := by
  have hE : eqF n d m c = faultF n d := by unfold eqF; rw [if_pos hf]
  have HE := Lib.hid hE
  have HE2 : Hid (eqF n d m c ≠ 0) := by rw [hE]; exact hf
  have hf2 : (faultF n d != 0) = true := by simpa using hf
  have hf3 : (faultF n d == 0) = false := by simpa using hf
  have HF := Lib.hid hf
  clear hf hE
  obtain ⟨F0, G0, hw0⟩ := two_new w n d m c
  have a0 := F0.c0
  have b0 := F0.c1
  have c0 := G0.c0
  have d0 := G0.c1
  have tok1 : True := trivial
  have tok2 : True := trivial
  go_enter Try.func4, Try.ntmps4
  go_wp2_with (first
    | (go_at_call 16; refine (tclass_bad n d _ HF.out).mono ?_; rintro e w1 ⟨rfl, hb1⟩; have hw1 := hw0.trans (hb1.mono hw0.size); clear a0 b0 c0 d0; have F1 := F0.below hb1 F0.lt; have G1 := G0.below hb1 G0.lt; have a1 := F1.c0; have b1 := F1.c1; have c1 := G1.c0; have d1 := G1.c1)
    | (go_at_call 17; refine (equiv_c n d m c _).mono ?_; rintro e w2 ⟨hE, _, hb2⟩; obtain rfl := hE HE2.out; rw [HE.out]; clear hE; have hw2 := hw1.trans (hb2.mono hw1.size); clear a1 b1 c1 d1; have F2 := F1.below hb2 F1.lt; have G2 := G1.below hb2 G1.lt; have a2 := F2.c0; have b2 := F2.c1; have c2 := G2.c0; have d2 := G2.c1)
    | (go_at_call 8; refine (ffault_c n d _).mono ?_; rintro e w3 ⟨rfl, hb3⟩; have hw3 := hw2.trans (hb3.mono hw2.size); clear a2 b2 c2 d2; have F3 := F2.below hb3 F2.lt; have G3 := G2.below hb3 G2.lt; have a3 := F3.c0; have b3 := F3.c1; have c3 := G3.c0; have d3 := G3.c1)
    | (go_at_call 9; refine (twistedF_c _).mono ?_; rintro e w7 ⟨rfl, hb7⟩; have hw7 := hw3.trans (hb7.mono hw3.size)))
  go_ret
  exact ⟨rfl, hw7⟩


set_option maxRecDepth 100000 in
set_option maxHeartbeats 4000000 in
theorem tcl_B (n d m c : Int) (w : World) (hf : faultF n d = 0) (hg : faultF m c ≠ 0) :
    Calls Try.prog 4 #[.agg #[.int .i64 n, .int .i64 d], .agg #[.int .i64 m, .int .i64 c]] w fun e w' => e = .returned (.bool true) ∧ Below w.heap.size w w' := by
  have hE : eqF n d m c = faultF m c := by unfold eqF; rw [if_neg (by rw [hf]; decide)]
  have HE := Lib.hid hE
  have HE2 : Hid (eqF n d m c ≠ 0) := by rw [hE]; exact hg
  have hf2 : (faultF m c != 0) = true := by simpa using hg
  have hf3 : (faultF m c == 0) = false := by simpa using hg
  have HF := Lib.hid hf
  clear hf hE hg
  obtain ⟨F0, G0, hw0⟩ := two_new w n d m c
  have a0 := F0.c0
  have b0 := F0.c1
  have c0 := G0.c0
  have d0 := G0.c1
  have tok1 : True := trivial
  have tok2 : True := trivial
  go_enter Try.func4, Try.ntmps4
  go_wp2_with (first
    | (go_at_call 16; refine (tclass_ok n d _ HF.out).mono ?_; rintro e w1 ⟨X, hX, rfl, hb1⟩; have hw1 := hw0.trans (hb1.mono hw0.size); clear a0 b0 c0 d0; have F1 := F0.below hb1 F0.lt; have G1 := G0.below hb1 G0.lt; have a1 := F1.c0; have b1 := F1.c1; have c1 := G1.c0; have d1 := G1.c1)
    | (go_at_call 17; refine (equiv_c n d m c _).mono ?_; rintro e w2 ⟨hE, _, hb2⟩; obtain rfl := hE HE2.out; rw [HE.out]; clear hE; have hw2 := hw1.trans (hb2.mono hw1.size); clear a1 b1 c1 d1; have F2 := F1.below hb2 F1.lt; have G2 := G1.below hb2 G1.lt; have a2 := F2.c0; have b2 := F2.c1; have c2 := G2.c0; have d2 := G2.c1)
    | (go_at_call 8; have _t := tok1; refine (ffault_c n d _).mono ?_; rw [HF.out]; rintro e w3 ⟨rfl, hb3⟩; clear tok1; have hw3 := hw2.trans (hb3.mono hw2.size); clear a2 b2 c2 d2; have F3 := F2.below hb3 F2.lt; have G3 := G2.below hb3 G2.lt; have a3 := F3.c0; have b3 := F3.c1; have c3 := G3.c0; have d3 := G3.c1)
    | (go_at_call 8; refine (ffault_c m c _).mono ?_; rintro e w4 ⟨rfl, hb4⟩; have hw4 := hw3.trans (hb4.mono hw3.size); clear a3 b3 c3 d3; have F4 := F3.below hb4 F3.lt; have G4 := G3.below hb4 G3.lt; have a4 := F4.c0; have b4 := F4.c1; have c4 := G4.c0; have d4 := G4.c1)
    | (go_at_call 18; refine (kind2_c n d X _ HF.out hX).mono ?_; rintro e w5 ⟨rfl, hb5⟩; have hw5 := hw4.trans (hb5.mono hw4.size); clear a4 b4 c4 d4; have F5 := F4.below hb5 F4.lt; have G5 := G4.below hb5 G4.lt; have a5 := F5.c0; have b5 := F5.c1; have c5 := G5.c0; have d5 := G5.c1)
    | (go_at_call 9; refine (twistedF_c _).mono ?_; rintro e w7 ⟨rfl, hb7⟩; have hw7 := hw5.trans (hb7.mono hw5.size)))
  go_ret
  exact ⟨rfl, hw7⟩


set_option maxRecDepth 100000 in
set_option maxHeartbeats 4000000 in
theorem tcl_C (n d m c : Int) (w : World) (hf : faultF n d = 0) (hg : faultF m c = 0) :
    Calls Try.prog 4 #[.agg #[.int .i64 n, .int .i64 d], .agg #[.int .i64 m, .int .i64 c]] w fun e w' => e = .returned (.bool true) ∧ Below w.heap.size w w' := by
  have hE : eqF n d m c = 0 := by unfold eqF; rw [if_neg (by rw [hf]; decide)]; exact hg
  have HE := Lib.hid hE
  have HF := Lib.hid hf
  have HG := Lib.hid hg
  clear hf hE hg
  obtain ⟨F0, G0, hw0⟩ := two_new w n d m c
  have a0 := F0.c0
  have b0 := F0.c1
  have c0 := G0.c0
  have d0 := G0.c1
  have tok1 : True := trivial
  have tok2 : True := trivial
  go_enter Try.func4, Try.ntmps4
  go_wp2_with (first
    | (go_at_call 16; refine (tclass_ok n d _ HF.out).mono ?_; rintro e w1 ⟨X, hX, rfl, hb1⟩; have hw1 := hw0.trans (hb1.mono hw0.size); clear a0 b0 c0 d0; have F1 := F0.below hb1 F0.lt; have G1 := G0.below hb1 G0.lt; have a1 := F1.c0; have b1 := F1.c1; have c1 := G1.c0; have d1 := G1.c1)
    | (go_at_call 17; refine (equiv_c n d m c _).mono ?_; rintro e w2 ⟨_, hE, hb2⟩; obtain ⟨X2, Y, hX2, hY, rfl⟩ := hE HE.out; obtain hK : kd n d X2 = kd n d X := kd_uniq hX2 hX; rw [hK]; clear hE hK; have hw2 := hw1.trans (hb2.mono hw1.size); clear a1 b1 c1 d1; have F2 := F1.below hb2 F1.lt; have G2 := G1.below hb2 G1.lt; have a2 := F2.c0; have b2 := F2.c1; have c2 := G2.c0; have d2 := G2.c1)
    | (go_at_call 8; have _t := tok1; refine (ffault_c n d _).mono ?_; rw [HF.out]; rintro e w3 ⟨rfl, hb3⟩; clear tok1; have hw3 := hw2.trans (hb3.mono hw2.size); clear a2 b2 c2 d2; have F3 := F2.below hb3 F2.lt; have G3 := G2.below hb3 G2.lt; have a3 := F3.c0; have b3 := F3.c1; have c3 := G3.c0; have d3 := G3.c1)
    | (go_at_call 8; refine (ffault_c m c _).mono ?_; rw [HG.out]; rintro e w4 ⟨rfl, hb4⟩; have hw4 := hw3.trans (hb4.mono hw3.size); clear a3 b3 c3 d3; have F4 := F3.below hb4 F3.lt; have G4 := G3.below hb4 G3.lt; have a4 := F4.c0; have b4 := F4.c1; have c4 := G4.c0; have d4 := G4.c1)
    | (go_at_call 18; have _t := tok2; refine (kind2_c n d X _ HF.out hX).mono ?_; rintro e w5 ⟨rfl, hb5⟩; clear tok2; have hw5 := hw4.trans (hb5.mono hw4.size); clear a4 b4 c4 d4; have F5 := F4.below hb5 F4.lt; have G5 := G4.below hb5 G4.lt; have a5 := F5.c0; have b5 := F5.c1; have c5 := G5.c0; have d5 := G5.c1)
    | (go_at_call 18; refine (kind2_c m c Y _ HG.out hY).mono ?_; rintro e w6 ⟨rfl, hb6⟩; have hw6 := hw5.trans (hb6.mono hw5.size); clear a5 b5 c5 d5; have F6 := F5.below hb6 F5.lt; have G6 := G5.below hb6 G5.lt; have a6 := F6.c0; have b6 := F6.c1; have c6 := G6.c0; have d6 := G6.c1)
    | (go_at_call 9; refine (twistedF_c _).mono ?_; rintro e w7 ⟨rfl, hb7⟩; have hw7 := hw6.trans (hb7.mono hw6.size)))
  all_goals
    rename_i hq
    go_ret
    exact ⟨by simp [hq], hw7⟩


theorem tangleClasses_walk (n d m c : Int) (w : World) :
    Calls Try.prog 4 #[.agg #[.int .i64 n, .int .i64 d], .agg #[.int .i64 m, .int .i64 c]] w fun e w' => e = .returned (.bool true) ∧ Below w.heap.size w w' := by
  by_cases hf : faultF n d = 0
  · by_cases hg : faultF m c = 0
    · exact tcl_C n d m c w hf hg
    · exact tcl_B n d m c w hf hg
  · exact tcl_A n d m c w hf

end Go.Proofs.Ythkbcgggbgkfmaa
