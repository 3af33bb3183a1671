/- Facts and contracts that the claim uses. No condition of its own. -/
import Derived.Test.YtkmkcbkfakoomaaDoorGRingTextsBY
set_option linter.unusedVariables false
set_option linter.unusedSimpArgs false
namespace Go.Proofs.YtkmkcbkfakoomaaDoor
open Go.RowKit
def txL (n : Int) (l : List Int) : List UInt8 := if chE n l = 0 then txt n.toNat l else []
set_option maxHeartbeats 4000000 in
set_option maxRecDepth 100000 in
theorem Text_s (n : Int) (l : List Int) : SC Tryd.prog 4 [pint n, pli l] (.tup [pstr (txL n l), pint (chE n l)]) := by
  have kc := rcheck_s n l
  by_cases h0 : chE n l = 0
  · obtain ⟨h1, h2, h3, h4⟩ := chE_ok h0
    obtain ⟨m, rfl⟩ : ∃ m : Nat, n = m := ⟨n.toNat, by omega⟩
    rw [Int.toNat_natCast] at h4
    rw [show txL m l = txt m l by unfold txL; rw [if_pos h0, Int.toNat_natCast], h0]
    rw [h0] at kc
    have kt := text_s (n := m) (l := l) (by omega) (by omega) (fun x hx => gdC_lt (h4 x hx) (by omega))
    refine SC.go {} tok mixed Tryd.func4 rfl rfl Tryd.ntmps4 rfl rfl (by kernel_rfl) ?_
    first | simp only [updS] | simp only [updL, Nat.reduceAdd]
    repeat (first | refine S0 ?_ | refine S1 ?_ | refine S2 ?_ | refine S5 ?_ | refine S7 ?_ | refine S8 ?_ | refine S9 ?_ | refine S15 ?_ | refine S16 ?_ | refine S19 ?_ | refine S20 ?_ | refine S29 ?_)
    refine Scall (args := [pint m, pli l]) kc ?_
    repeat (first | refine S0 ?_ | refine S1 ?_ | refine S2 ?_ | refine S5 ?_ | refine S7 ?_ | refine S8 ?_ | refine S9 ?_ | refine S15 ?_ | refine S16 ?_ | refine S19 ?_ | refine S20 ?_ | refine S29 ?_)
    refine Scall (args := [pint m, pli l]) kt ?_
    repeat (first | refine S0 ?_ | refine S1 ?_ | refine S2 ?_ | refine S5 ?_ | refine S7 ?_ | refine S8 ?_ | refine S9 ?_ | refine S15 ?_ | refine S16 ?_ | refine S19 ?_ | refine S20 ?_ | refine S29 ?_)
    exact ⟨.inr rfl, .cl rfl⟩
  · rw [show txL n l = [] from if_neg h0]
    refine SC.go {} tok mixed Tryd.func4 rfl rfl Tryd.ntmps4 rfl rfl (by kernel_rfl) ?_
    first | simp only [updS] | simp only [updL, Nat.reduceAdd]
    repeat (first | refine S0 ?_ | refine S1 ?_ | refine S2 ?_ | refine S5 ?_ | refine S7 ?_ | refine S8 ?_ | refine S9 ?_ | refine S15 ?_ | refine S16 ?_ | refine S19 ?_ | refine S20 ?_ | refine S29 ?_)
    refine Scall (args := [pint n, pli l]) kc ?_
    repeat (first | refine S0 ?_ | refine S1 ?_ | refine S2 ?_ | refine S5 ?_ | refine S7 ?_ | refine S8 ?_ | refine S9 ?_ | refine S15 ?_ | refine S16 ?_ | refine S19 ?_ | refine S20 ?_ | refine S29 ?_)
    exact ⟨.inr rfl, .cl rfl⟩
set_option maxHeartbeats 4000000 in
set_option maxRecDepth 100000 in
theorem noted_bad (n : Int) (s : List UInt8) (h : n < 1 ∨ 7 < n ∨ 5040 < s.length) : SC Tryd.prog 8 [pint n, pstr s] (.tup [pli (psL n s), pint (psE n s)]) := by
  refine SC.go {} tok mixed Tryd.func8 rfl rfl Tryd.ntmps8 rfl rfl (by kernel_rfl) ?_
  first | simp only [updS] | simp only [updL, Nat.reduceAdd]
  by_cases h1 : n < 1
  · have e : psE n s = 1 := if_pos (.inl h1)
    rw [show psL n s = [] from if_neg (by rw [e]; decide), e]
    repeat (first | refine S0 ?_ | refine S1 ?_ | refine S2 ?_ | refine S5 ?_ | refine S7 ?_ | refine S8 ?_ | refine S9 ?_ | refine S15 ?_ | refine S16 ?_ | refine S19 ?_ | refine S20 ?_ | refine S21 ?_ | refine S26 ?_ | refine S30 ?_ | refine S37 ?_ | refine S38 ?_ | refine S40 ?_ | refine S41 ?_ | refine S73 ?_)
    exact ⟨.inr rfl, Fz.pair (.nrm rfl) (.cl rfl)⟩
  by_cases h2 : 7 < n
  · have e : psE n s = 1 := if_pos (.inr h2)
    rw [show psL n s = [] from if_neg (by rw [e]; decide), e]
    repeat (first | refine S0 ?_ | refine S1 ?_ | refine S2 ?_ | refine S5 ?_ | refine S7 ?_ | refine S8 ?_ | refine S9 ?_ | refine S15 ?_ | refine S16 ?_ | refine S19 ?_ | refine S20 ?_ | refine S21 ?_ | refine S26 ?_ | refine S30 ?_ | refine S37 ?_ | refine S38 ?_ | refine S40 ?_ | refine S41 ?_ | refine S73 ?_)
    exact ⟨.inr rfl, Fz.pair (.nrm rfl) (.cl rfl)⟩
  have h3 : 5040 < s.length := by omega
  have e1 : psE n s = 2 := by unfold psE; rw [if_neg (by omega), if_pos h3]
  rw [show psL n s = [] from if_neg (by rw [e1]; decide), e1]
  repeat (first | refine S0 ?_ | refine S1 ?_ | refine S2 ?_ | refine S5 ?_ | refine S7 ?_ | refine S8 ?_ | refine S9 ?_ | refine S15 ?_ | refine S16 ?_ | refine S19 ?_ | refine S20 ?_ | refine S21 ?_ | refine S26 ?_ | refine S30 ?_ | refine S37 ?_ | refine S38 ?_ | refine S40 ?_ | refine S41 ?_ | refine S73 ?_)
  refine AW.lenS rfl EVx bt_str ?_
  repeat (first | refine S0 ?_ | refine S1 ?_ | refine S2 ?_ | refine S5 ?_ | refine S7 ?_ | refine S8 ?_ | refine S9 ?_ | refine S15 ?_ | refine S16 ?_ | refine S19 ?_ | refine S20 ?_ | refine S21 ?_ | refine S26 ?_ | refine S30 ?_ | refine S37 ?_ | refine S38 ?_ | refine S40 ?_ | refine S41 ?_ | refine S73 ?_)
  exact ⟨.inr rfl, Fz.pair (.nrm rfl) (.cl rfl)⟩
theorem noted_any (n : Int) (s : List UInt8) {Z : Nat → Prop} {w : World} {vs : Array Value} (hz : ∀ b, Z b → b < w.heap.size) (hvs : vs.size = 2) (hv : ∀ i, i < 2 → V (fun _ => none) Z w ([pint n, pstr s].getD i .junk) (vs.getD i undef)) {m0 : Int} (hm : w.cell? ⟨0, 0, none⟩ = some (.int .i64 m0)) :
    Calls Tryd.prog 8 vs w fun e w' => ∃ u, e = .returned u ∧ V (fun _ => none) Z w' (.tup [pli (psL n s), pint (psE n s)]) u ∧ Below w.heap.size w w' := by
  by_cases h : n < 1 ∨ 7 < n ∨ 5040 < s.length
  · exact (noted_bad n s h).2 Z w vs hz hvs hv
  · obtain ⟨m, rfl⟩ : ∃ m : Nat, n = m := ⟨n.toNat, by omega⟩
    exact noted_c (by omega) (by omega) (by omega) hz hvs hv hm
set_option maxHeartbeats 16000000 in
set_option maxRecDepth 100000 in
theorem ringTexts_c (n : Int) (l : List Int) (s : List UInt8) {Z : Nat → Prop} {w : World} {vs : Array Value} (hz : ∀ b, Z b → b < w.heap.size) (hvs : vs.size = 3) (hv : ∀ i, i < 3 → V (fun _ => none) Z w ([pint n, pli l, pstr s].getD i .junk) (vs.getD i undef)) {m0 : Int} (hm : w.cell? ⟨0, 0, none⟩ = some (.int .i64 m0)) :
    Calls Tryd.prog 3 vs w fun e w' => ∃ u, e = .returned u ∧ V (fun _ => none) Z w' (.sc (.bool true)) u ∧ Below w.heap.size w w' := by
  have h0 : 0 < w.heap.size := by
    apply Classical.byContradiction; intro hc
    simp [World.cell?, Array.getElem?_eq_none (show w.heap.size ≤ 0 by omega)] at hm
  have kT := Text_s n l
  have kP := parse_s n s
  have kF := cfault_s n l
  have ke := equal_s (psL n s) (psL n s)
  rw [decide_eq_true rfl] at ke
  refine Calls.ofB (args := [pint n, pli l, pstr s]) Tryd.func3 rfl rfl hz hvs hv (fun a R => ?_)
  refine CW.bseq (M := {}) (by kernel_rfl) R (N := fun s' => allS [(0, pint n), (1, pli l), (2, pstr s)] s'.tmps ∧ s'.hp = H0) ?_ ?_
  · first | simp only [updS] | simp only [updL, Nat.reduceAdd]
    repeat (first | refine S0 ?_ | refine S1 ?_ | refine S2 ?_ | refine S5 ?_ | refine S7 ?_ | refine S8 ?_ | refine S15 ?_ | refine S16 ?_ | refine S19 ?_ | refine S20 ?_ | refine S28 ?_ | refine S34 ?_ | refine S37 ?_ | refine S40 ?_)
    exact ⟨rfl, SLx, rfl⟩
  rintro ρ s' a1 w1 R ⟨hs, hh⟩
  have R := R.bforget hs
  rw [hh] at R
  clear hs hh
  refine CW.bseq (M := {}) (by kernel_rfl) R (N := fun s' => allS [(0, pint n), (1, pli l), (2, pstr s), (7, pstr (txL n l)), (8, pint (chE n l))] s'.tmps ∧ s'.hp = H0) ?_ ?_
  · first | simp only [updS] | simp only [updL, Nat.reduceAdd]
    repeat (first | refine S0 ?_ | refine S1 ?_ | refine S2 ?_ | refine S5 ?_ | refine S7 ?_ | refine S8 ?_ | refine S15 ?_ | refine S16 ?_ | refine S19 ?_ | refine S20 ?_ | refine S28 ?_ | refine S34 ?_ | refine S37 ?_ | refine S40 ?_)
    refine Scall (args := [pint n, pli l]) kT ?_
    repeat (first | refine S0 ?_ | refine S1 ?_ | refine S2 ?_ | refine S5 ?_ | refine S7 ?_ | refine S8 ?_ | refine S15 ?_ | refine S16 ?_ | refine S19 ?_ | refine S20 ?_ | refine S28 ?_ | refine S34 ?_ | refine S37 ?_ | refine S40 ?_)
    exact ⟨rfl, SLx, rfl⟩
  rintro ρ s' a1 w1 R ⟨hs, hh⟩
  have R := R.bforget hs
  rw [hh] at R
  clear hs hh
  refine CW.bseq (M := {}) (by kernel_rfl) R (N := fun s' => allS [(0, pint n), (1, pli l), (2, pstr s), (7, pstr (txL n l)), (8, pint (chE n l)), (9, pli (psL n s)), (10, pint (psE n s))] s'.tmps ∧ s'.hp = H0) ?_ ?_
  · first | simp only [updS] | simp only [updL, Nat.reduceAdd]
    repeat (first | refine S0 ?_ | refine S1 ?_ | refine S2 ?_ | refine S5 ?_ | refine S7 ?_ | refine S8 ?_ | refine S15 ?_ | refine S16 ?_ | refine S19 ?_ | refine S20 ?_ | refine S28 ?_ | refine S34 ?_ | refine S37 ?_ | refine S40 ?_)
    refine Scall (args := [pint n, pstr s]) kP ?_
    repeat (first | refine S0 ?_ | refine S1 ?_ | refine S2 ?_ | refine S5 ?_ | refine S7 ?_ | refine S8 ?_ | refine S15 ?_ | refine S16 ?_ | refine S19 ?_ | refine S20 ?_ | refine S28 ?_ | refine S34 ?_ | refine S37 ?_ | refine S40 ?_)
    exact ⟨rfl, SLx, rfl⟩
  rintro ρ s' a1 w1 R ⟨hs, hh⟩
  have R := R.bforget hs
  rw [hh] at R
  clear hs hh
  refine CW.bseq (M := {}) (by kernel_rfl) R (N := fun s' => allS [(0, pint n), (1, pli l), (2, pstr s), (7, pstr (txL n l)), (8, pint (chE n l)), (9, pli (psL n s)), (10, pint (psE n s)), (11, pint (chE n l))] s'.tmps ∧ s'.hp = H0) ?_ ?_
  · first | simp only [updS] | simp only [updL, Nat.reduceAdd]
    repeat (first | refine S0 ?_ | refine S1 ?_ | refine S2 ?_ | refine S5 ?_ | refine S7 ?_ | refine S8 ?_ | refine S15 ?_ | refine S16 ?_ | refine S19 ?_ | refine S20 ?_ | refine S28 ?_ | refine S34 ?_ | refine S37 ?_ | refine S40 ?_)
    refine Scall (args := [pint n, pli l]) kF ?_
    repeat (first | refine S0 ?_ | refine S1 ?_ | refine S2 ?_ | refine S5 ?_ | refine S7 ?_ | refine S8 ?_ | refine S15 ?_ | refine S16 ?_ | refine S19 ?_ | refine S20 ?_ | refine S28 ?_ | refine S34 ?_ | refine S37 ?_ | refine S40 ?_)
    exact ⟨rfl, SLx, rfl⟩
  rintro ρ s' a1 w1 R ⟨hs, hh⟩
  have R := R.bforget hs
  rw [hh] at R
  clear hs hh
  refine CW.bseq (M := {}) (by kernel_rfl) R (N := fun s' => allS [(0, pint n), (1, pli l), (2, pstr s), (7, pstr (txL n l)), (8, pint (chE n l)), (9, pli (psL n s)), (10, pint (psE n s)), (11, pint (chE n l)), (12, pstr [])] s'.tmps ∧ s'.hp = H0) ?_ ?_
  · first | simp only [updS] | simp only [updL, Nat.reduceAdd]
    repeat (first | refine S0 ?_ | refine S1 ?_ | refine S2 ?_ | refine S5 ?_ | refine S7 ?_ | refine S8 ?_ | refine S15 ?_ | refine S16 ?_ | refine S19 ?_ | refine S20 ?_ | refine S28 ?_ | refine S34 ?_ | refine S37 ?_ | refine S40 ?_)
    exact ⟨rfl, SLx, rfl⟩
  rintro ρ s' a1 w1 R ⟨hs, hh⟩
  have R := R.bforget hs
  rw [hh] at R
  clear hs hh
  refine CW.bseq (M := {}) (by kernel_rfl) R (N := fun s' => allS [(0, pint n), (1, pli l), (2, pstr s), (7, pstr (txL n l)), (8, pint (chE n l)), (9, pli (psL n s)), (10, pint (psE n s)), (11, pint (chE n l)), (12, pstr (txL n l))] s'.tmps ∧ s'.hp = H0) ?_ ?_
  · first | simp only [updS] | simp only [updL, Nat.reduceAdd]
    by_cases hE : chE n l = 0
    · obtain ⟨g1, g2, g3, g4⟩ := chE_ok hE
      obtain ⟨m, rfl⟩ : ∃ m : Nat, n = m := ⟨n.toNat, by omega⟩
      rw [Int.toNat_natCast] at g4
      rw [show txL m l = txt m l by unfold txL; rw [if_pos hE, Int.toNat_natCast]]
      have kn := notation_s (n := m) (l := l) (by omega) (by omega) (fun x hx => gdC_lt (g4 x hx) (by omega))
      repeat (first | refine S0 ?_ | refine S1 ?_ | refine S2 ?_ | refine S5 ?_ | refine S7 ?_ | refine S8 ?_ | refine S15 ?_ | refine S16 ?_ | refine S19 ?_ | refine S20 ?_ | refine S28 ?_ | refine S34 ?_ | refine S37 ?_ | refine S40 ?_)
      refine Scall (args := [pint m, pli l]) kn ?_
      repeat (first | refine S0 ?_ | refine S1 ?_ | refine S2 ?_ | refine S5 ?_ | refine S7 ?_ | refine S8 ?_ | refine S15 ?_ | refine S16 ?_ | refine S19 ?_ | refine S20 ?_ | refine S28 ?_ | refine S34 ?_ | refine S37 ?_ | refine S40 ?_)
      exact ⟨rfl, SLx, rfl⟩
    · rw [show txL n l = [] from if_neg hE]
      repeat (first | refine S0 ?_ | refine S1 ?_ | refine S2 ?_ | refine S5 ?_ | refine S7 ?_ | refine S8 ?_ | refine S15 ?_ | refine S16 ?_ | refine S19 ?_ | refine S20 ?_ | refine S28 ?_ | refine S34 ?_ | refine S37 ?_ | refine S40 ?_)
      exact ⟨rfl, SLx, rfl⟩
  rintro ρ s' a1 w1 R ⟨hs, hh⟩
  have R := R.bforget hs
  rw [hh] at R
  clear hs hh
  refine wpIn_seq (wpIn_region_list ?_)
  refine list_step (M := {}) (by kernel_rfl) R (AX.move rfl (AX.nil rfl)) (fun ρ a1 w1 R => ?_)
  refine list_step (M := {}) (by kernel_rfl) R (AX.move rfl (AX.nil rfl)) (fun ρ a1 w1 R => ?_)
  have hm1 : w1.cell? ⟨0, 0, none⟩ = some (.int .i64 m0) := (R.heap.below.cell (p := ⟨0, 0, none⟩) h0).trans hm
  refine list_call (r := .tup [pli (psL n s), pint (psE n s)]) (by decide) R (callable Tryd.func8 rfl rfl) (fun Z1 vs1 hz1 hvs1 hv1 => ?_) (fun a2 w2 R _ => ?_)
  · refine noted_any n s hz1 (by simpa using hvs1) (fun i hi => ?_) hm1
    match i, hi with
    | 0, _ => exact V.toNone (hv1 0 _ rfl)
    | 1, _ => exact V.toNone (hv1 1 _ rfl)
    | i + 2, h => omega
  refine list_go (M := {}) (by kernel_rfl) R (Kx := fun s' => allS [(7, pstr (txL n l)), (8, pint (chE n l)), (9, pli (psL n s)), (10, pint (psE n s)), (11, pint (chE n l)), (12, pstr (txL n l)), (13, pli (psL n s)), (14, pint (psE n s))] s'.tmps ∧ s'.hp = H0) ?_ (fun ρ s' a4 w4 R ⟨hs, hh⟩ => ?_)
  · first | simp only [updS] | simp only [updL, Nat.reduceAdd]
    repeat (first | refine S0 ?_ | refine S1 ?_ | refine S2 ?_ | refine S5 ?_ | refine S7 ?_ | refine S8 ?_ | refine S15 ?_ | refine S16 ?_ | refine S19 ?_ | refine S20 ?_ | refine S28 ?_ | refine S34 ?_ | refine S37 ?_ | refine S40 ?_)
    exact ⟨SLx, rfl⟩
  have R := R.bforget hs
  rw [hh] at R
  clear hs hh
  refine CW.fin (M := {}) (by kernel_rfl) R ?_
  first | simp only [updS] | simp only [updL, Nat.reduceAdd]
  generalize chE n l = E1 at *
  generalize psE n s = E2 at *
  generalize txL n l = T1 at *
  generalize psL n s = L1 at *
  repeat (first | refine S0 ?_ | refine S1 ?_ | refine S2 ?_ | refine S5 ?_ | refine S7 ?_ | refine S8 ?_ | refine S15 ?_ | refine S16 ?_ | refine S19 ?_ | refine S20 ?_ | refine S28 ?_ | refine S34 ?_ | refine S37 ?_ | refine S40 ?_)
  refine Scall (args := []) rung_s ?_
  repeat (first | refine S0 ?_ | refine S1 ?_ | refine S2 ?_ | refine S5 ?_ | refine S7 ?_ | refine S8 ?_ | refine S15 ?_ | refine S16 ?_ | refine S19 ?_ | refine S20 ?_ | refine S28 ?_ | refine S34 ?_ | refine S37 ?_ | refine S40 ?_)
  refine AW.binf EVx EVx (str_eql _ _ _ _ _) ?_
  rw [decide_eq_true rfl]
  repeat (first | refine S0 ?_ | refine S1 ?_ | refine S2 ?_ | refine S5 ?_ | refine S7 ?_ | refine S8 ?_ | refine S15 ?_ | refine S16 ?_ | refine S19 ?_ | refine S20 ?_ | refine S28 ?_ | refine S34 ?_ | refine S37 ?_ | refine S40 ?_)
  refine Scall (args := [pli L1, pli L1]) ke ?_
  repeat (first | refine S0 ?_ | refine S1 ?_ | refine S2 ?_ | refine S5 ?_ | refine S7 ?_ | refine S8 ?_ | refine S15 ?_ | refine S16 ?_ | refine S19 ?_ | refine S20 ?_ | refine S28 ?_ | refine S34 ?_ | refine S37 ?_ | refine S40 ?_)
  exact ⟨.inr rfl, .cl rfl⟩
end Go.Proofs.YtkmkcbkfakoomaaDoor
