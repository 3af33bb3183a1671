/- slices.Grow at the nil slice, slices.Concat. No condition of its own. -/
import Derived.Lib.Walk
import Derived.Lib.SliceRun
import Derived.Lib.AppendZerosOnto
import Derived.Test.YtgjfpmjllpgadaaGGarsideEqualsBF
import Derived.Test.YtgjfpmjllpgadaaGGarsideEqualsBD
import Derived.Test.YtgjfpmjllpgadaaGGarsideEqualsAV
import Derived.Test.YtgjfpmjllpgadaaGGarsideEqualsBN
import Derived.Test.YtgjfpmjllpgadaaGGarsideEqualsBO
import Derived.Test.YtgjfpmjllpgadaaGGarsideEqualsBC
set_option linter.unusedVariables false
set_option linter.unusedSimpArgs false
namespace Go.Proofs.Ytgjfpmjllpgadaa
open Go.RowKit

set_option maxHeartbeats 4000000 in
set_option maxRecDepth 100000 in
theorem grow_c (base : Option Addr) (n : Nat) (w : World) (h0 : 0 < n) (hn : n ≤ 1000000) :
    Calls Try.prog 82 #[.slice base 0 0, .int .i64 n] w fun e w' =>
      e = .returned (.slice (some ⟨w.heap.size, 0, none⟩) 0 (grownCap w n 0 3)) ∧
      w' = w.drew.alloc (.cells (#[] ++ Builtin.zeroCells (Value.int .i64 0).cells n ++ Builtin.zeroCells (Value.int .i64 0).cells (grownCap w n 0 3 - n)) 3) := by
  obtain ⟨i0, hi, hz0, hz1, hz2⟩ := info_parts info3
  have h1 : ¬ ((n : Int) < 0) := by omega
  have h4 : (n : Int) > 0 := by omega
  have hold : (Builtin.firstCells i0.size 0 (.slice base 0 0)).run Try.prog w.drew = .ok (#[] : Array Value) w.drew := by
    cases base with
    | none => exact run_firstCells_none w.drew i0.size 0 0 0
    | some a => exact run_firstCells_some w.drew i0.size 0 a 0 0 [] (by simp) (fun j v hj => by simp at hj)
  have hrz : ∀ ty, (Builtin.append_ #[22, 3] ty #[.slice base 0 0, .int .i64 (n : Int)]).run Try.prog w =
      .ok (.slice (some ⟨w.heap.size, 0, none⟩) n (grownCap w n 0 3)) (w.drew.alloc (.cells (#[] ++ Builtin.zeroCells (Value.int .i64 0).cells n ++ Builtin.zeroCells (Value.int .i64 0).cells (grownCap w n 0 3 - n)) 3)) := fun ty => by
    have h := Lib.run_append_grow_zeros w 22 3 ty 3 i0 (.int .i64 0) .i64 .i64 Try.underlying22 Try.underlying3 hi hz0 base 0 0 [] hold n h0 (by omega) (by omega) (by omega)
      (by rw [hz2]; omega) (by rw [hz2]; exact growslice_fits (by omega) (by omega))
    simpa using h
  have hGn : n ≤ grownCap w n 0 3 := grownCap_ge w _ _ _
  obtain ⟨G, hG⟩ : ∃ G, G = grownCap w n 0 3 := ⟨_, rfl⟩
  rw [← hG] at hrz hGn ⊢
  have hG63 : G ≤ 9223372036854775807 := by
    have := grownCap_le_maxLen w n 0 3 (by unfold maxLen; omega)
    rw [← hG] at this
    unfold maxLen at this
    omega
  clear hold hG
  go_enter Try.func82, Try.ntmps82
  cases base with
  | none =>
    go_wp2_with (at_builtin; refine Lib.wpList_append_run _ rfl _ _ _ _ rfl _ _ rfl rfl _ _ (hrz _) ?_)
    all_goals (go_ret; exact ⟨rfl, rfl⟩)
  | some a =>
    obtain ⟨ab, ao, asp⟩ := a
    go_wp2_with (at_builtin; refine Lib.wpList_append_run _ rfl _ _ _ _ rfl _ _ rfl rfl _ _ (hrz _) ?_)
    all_goals (go_ret; exact ⟨rfl, rfl⟩)
theorem grow0_c (base : Option Addr) (w : World) :
    Calls Try.prog 82 #[.slice base 0 0, .int .i64 0] w fun e w' => e = .returned (.slice base 0 0) ∧ w' = w := by
  go_enter Try.func82, Try.ntmps82
  go_wp2
  go_ret
  exact ⟨rfl, rfl⟩
theorem below_drew_alloc (w : World) (o : Obj) : Below w.heap.size w (w.drew.alloc o) := by
  have h1 : Below w.heap.size w w.drew := ⟨rfl, rfl, rfl, Nat.le_refl _, fun _ _ => rfl⟩
  exact h1.alloc (Nat.le_refl _) o
theorem grow_o (n : Nat) (hn : n ≤ 1000000) : SCo Try.prog 82 [.lst true 0 0 [], pint n] 1 0 [] := by
  refine ⟨callable Try.func82 rfl rfl, fun Z w vs hz hl hv => ?_⟩
  obtain ⟨cap, A, f, e0, g1, g2, g3, g4, g5, g6⟩ := (hv 0 (by simp)).lst_inv
  have e1 := (hv 1 (by simp)).sc_inv
  obtain rfl : cap = 0 := g2 rfl
  obtain rfl : vs = [Value.slice A 0 0, .int .i64 n].toArray := vs_of (by simpa using hl) (fun i hi => by
    match i, hi with
    | 0, _ => simpa using e0
    | 1, _ => simpa using e1
    | i + 2, h => simp at h; omega)
  by_cases h0 : n = 0
  · subst h0
    refine (grow0_c A w).mono ?_
    rintro e w' ⟨rfl, rfl⟩
    exact ⟨A, 0, rfl, Nat.le_refl _, Nat.zero_le _, Below.refl _ _, fun _ => rfl, fun h => absurd rfl h⟩
  · refine (grow_c A n w (by omega) hn).mono ?_
    rintro e w' ⟨rfl, rfl⟩
    have hge := grownCap_ge w n 0 3
    refine ⟨_, _, rfl, Nat.zero_le _, grownCap_le_maxLen w n 0 3 (by unfold maxLen; omega), ?_, fun _ => rfl, fun _ => ⟨w.heap.size, 0, #[] ++ Builtin.zeroCells (Value.int .i64 0).cells n ++ Builtin.zeroCells (Value.int .i64 0).cells (grownCap w n 0 3 - n), 3, rfl, Nat.le_refl _, ?_, ?_, Nat.zero_le _, fun i hi => by simp at hi⟩⟩
    · exact below_drew_alloc w _
    · show (w.heap.push _)[w.heap.size]? = _
      simp
    · simp [size_zeroCells, Value.cells]; omega
set_option maxHeartbeats 2000000 in
set_option maxRecDepth 100000 in
theorem concat_s {cs : List (Bool × List Int)} (hn : cs.length ≤ 1000) (hl : (flat cs).length ≤ 100000) : SC Try.prog 38 [.lst true 1 cs.length (cs.map pcl)] (pli (flat cs)) := by
  refine SC.go {} tok mixed Try.func38 rfl rfl Try.ntmps38 rfl rfl (by kernel_rfl) ?_
  first | simp only [updS] | simp only [updL, Nat.reduceAdd]
  repeat (first | refine S0 ?_ | refine S1 ?_ | refine S2 ?_ | refine S4 ?_ | refine S5 ?_ | refine S6 ?_ | refine S7 ?_ | refine S8 ?_ | refine S10 ?_ | refine S11 ?_ | refine S13 ?_ | refine S15 ?_ | refine S16 ?_ | refine S19 ?_ | refine S20 ?_ | refine S21 ?_ | refine S22 ?_ | refine S23 ?_ | refine S25 ?_ | refine S63 ?_)
  refine CW.loopS (fun k : Nat => k ≤ cs.length) (fun k => [(0, .lst true 1 cs.length (cs.map pcl)), (3, pint (flat (cs.take k)).length), (9, .lst true 1 cs.length (cs.map pcl)), (10, pint cs.length), (11, pint k)]) (fun _ h => h = H0) (fun k => cs.length - k) 0 ⟨by omega, by simp [flat]; exact SLx, rfl⟩ ?_
  rintro k t _ hk rfl
  first | simp only [updS] | simp only [updL, Nat.reduceAdd]
  by_cases hk2 : k < cs.length
  · have hfl := flat_take cs (k + 1)
    rw [flat_succ hk2, List.length_append] at hfl
    have hcell : (cs.map pcl)[k]? = some (pcl cs[k]) := by simp [hk2]
    have hfs := congrArg List.length (flat_succ hk2)
    rw [List.length_append] at hfs
    generalize hq : cs[k] = q at *
    obtain ⟨cb, xs⟩ := q
    simp only at hfl hfs
    repeat (first | refine S0 ?_ | refine S1 ?_ | refine S2 ?_ | refine S4 ?_ | refine S5 ?_ | refine S6 ?_ | refine S7 ?_ | refine S8 ?_ | refine S10 ?_ | refine S11 ?_ | refine S13 ?_ | refine S15 ?_ | refine S16 ?_ | refine S19 ?_ | refine S20 ?_ | refine S21 ?_ | refine S22 ?_ | refine S23 ?_ | refine S25 ?_ | refine S63 ?_)
    refine AW.ldl (by simp only [evA, upd, putA, ofConst, ofConst.ofCell, Nat.reduceEqDiff, ↓reduceIte, List.map_cons, List.map_nil, List.toList_toArray]; first | done | rfl) rfl (p := .lst cb 1 xs.length (ints xs)) (by rw [Int.toNat_natCast, Nat.mul_one, List.getElem?_drop, Nat.add_zero]; exact hcell) ?_
    repeat (first | refine S0 ?_ | refine S1 ?_ | refine S2 ?_ | refine S4 ?_ | refine S5 ?_ | refine S6 ?_ | refine S7 ?_ | refine S8 ?_ | refine S10 ?_ | refine S11 ?_ | refine S13 ?_ | refine S15 ?_ | refine S16 ?_ | refine S19 ?_ | refine S20 ?_ | refine S21 ?_ | refine S22 ?_ | refine S23 ?_ | refine S25 ?_ | refine S63 ?_)
    exact ⟨k + 1, by omega, by rw [hfs]; exact SLx, rfl, by omega⟩
  · obtain rfl : k = cs.length := by omega
    have hG := grow_o (flat cs).length (by omega)
    rw [List.take_length]
    repeat (first | refine S0 ?_ | refine S1 ?_ | refine S2 ?_ | refine S4 ?_ | refine S5 ?_ | refine S6 ?_ | refine S7 ?_ | refine S8 ?_ | refine S10 ?_ | refine S11 ?_ | refine S13 ?_ | refine S15 ?_ | refine S16 ?_ | refine S19 ?_ | refine S20 ?_ | refine S21 ?_ | refine S22 ?_ | refine S23 ?_ | refine S25 ?_ | refine S63 ?_)
    refine Scallo (args := [.lst true 0 0 [], pint (flat cs).length]) hG ?_
    repeat (first | refine S0 ?_ | refine S1 ?_ | refine S2 ?_ | refine S4 ?_ | refine S5 ?_ | refine S6 ?_ | refine S7 ?_ | refine S8 ?_ | refine S10 ?_ | refine S11 ?_ | refine S13 ?_ | refine S15 ?_ | refine S16 ?_ | refine S19 ?_ | refine S20 ?_ | refine S21 ?_ | refine S22 ?_ | refine S23 ?_ | refine S25 ?_ | refine S63 ?_)
    refine CW.loopS (fun i : Nat × Nat => i.1 ≤ cs.length ∧ i.2 % 2 = 0) (fun i => [(6, .ref i.2 0 1 (flat (cs.take i.1)).length), (25, .lst true 1 cs.length (cs.map pcl)), (26, pint cs.length), (27, pint i.1)]) (fun i h => h.blk i.2 = some (ints (flat (cs.take i.1)))) (fun i => cs.length - i.1) (0, 0) ⟨⟨by simp, rfl⟩, by simp [flat]; exact SLx, (by (try dsimp only); repeat' (first | exact HBx | exact SBx | refine And.intro ?_ ?_))⟩ ?_
    rintro ⟨k, T⟩ t hp ⟨hk, hT⟩ B
    simp only at hk hT B
    first | simp only [updS] | simp only [updL, Nat.reduceAdd]
    by_cases hk2 : k < cs.length
    · have hfl := flat_take cs (k + 1)
      rw [flat_succ hk2, List.length_append] at hfl
      have hcell : (cs.map pcl)[k]? = some (pcl cs[k]) := by simp [hk2]
      have hfs := flat_succ hk2
      generalize hq : cs[k] = q at *
      obtain ⟨cb, xs⟩ := q
      simp only at hfl hfs
      generalize hF : flat (cs.take k) = F at *
      repeat (first | refine S0 ?_ | refine S1 ?_ | refine S2 ?_ | refine S4 ?_ | refine S5 ?_ | refine S6 ?_ | refine S7 ?_ | refine S8 ?_ | refine S10 ?_ | refine S11 ?_ | refine S13 ?_ | refine S15 ?_ | refine S16 ?_ | refine S19 ?_ | refine S20 ?_ | refine S21 ?_ | refine S22 ?_ | refine S23 ?_ | refine S25 ?_ | refine S63 ?_)
      refine AW.ldl (by simp only [evA, upd, putA, ofConst, ofConst.ofCell, Nat.reduceEqDiff, ↓reduceIte, List.map_cons, List.map_nil, List.toList_toArray]; first | done | rfl) rfl (p := .lst cb 1 xs.length (ints xs)) (by rw [Int.toNat_natCast, Nat.mul_one, List.getElem?_drop, Nat.add_zero]; exact hcell) ?_
      repeat (first | refine S0 ?_ | refine S1 ?_ | refine S2 ?_ | refine S4 ?_ | refine S5 ?_ | refine S6 ?_ | refine S7 ?_ | refine S8 ?_ | refine S10 ?_ | refine S11 ?_ | refine S13 ?_ | refine S15 ?_ | refine S16 ?_ | refine S19 ?_ | refine S20 ?_ | refine S21 ?_ | refine S22 ?_ | refine S23 ?_ | refine S25 ?_ | refine S63 ?_)
      exact ⟨(k + 1, 2 * hp.next), ⟨by simp only; omega, by simp only; omega⟩, by simp only [hfs, List.length_append]; exact SLx, by simp only [hfs]; exact (by (try dsimp only); repeat' (first | exact HBx | exact SBx | refine And.intro ?_ ?_)), by simp only; omega⟩
    · obtain rfl : k = cs.length := by omega
      rw [List.take_length] at B ⊢
      repeat (first | refine S0 ?_ | refine S1 ?_ | refine S2 ?_ | refine S4 ?_ | refine S5 ?_ | refine S6 ?_ | refine S7 ?_ | refine S8 ?_ | refine S10 ?_ | refine S11 ?_ | refine S13 ?_ | refine S15 ?_ | refine S16 ?_ | refine S19 ?_ | refine S20 ?_ | refine S21 ?_ | refine S22 ?_ | refine S23 ?_ | refine S25 ?_ | refine S63 ?_)
      exact ⟨.inr rfl, Fz.refI HBx rfl rfl⟩
end Go.Proofs.Ytgjfpmjllpgadaa

/- timbref1.Equals at equal braids; the law GarsideForms holds for all words. No condition of its own. -/
set_option linter.unusedVariables false
set_option linter.unusedSimpArgs false
namespace Go.Proofs.Ytgjfpmjllpgadaa
open Go.RowKit

theorem fcs_get {n m j : Nat} {G : Fam} (hj : j < m) : (fcs n m G).getD j [] = tabN n (G j) := by simp [fcs, lst, List.getD, hj]
end Go.Proofs.Ytgjfpmjllpgadaa
