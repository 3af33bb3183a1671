/- slices.IndexFunc, DeleteFunc, Clip, EqualFunc at lists of lists. No condition of its own. -/
import Derived.Test.YtenoiklocdoemaaGTopBurauDetBD
import Derived.Test.YtenoiklocdoemaaGTopBurauDetAV
import Derived.Test.YtenoiklocdoemaaGTopBurauDetBT
import Derived.Test.YtenoiklocdoemaaGTopBurauDetBY
import Derived.Test.YtenoiklocdoemaaGTopBurauDetBO
import Derived.Test.YtenoiklocdoemaaGTopBurauDetBP
set_option linter.unusedVariables false
set_option linter.unusedSimpArgs false
namespace Go.Proofs.Ytenoiklocdoemaa
open Go.RowKit

section
variable {F : List Int → PV} {b : Bool} {ls : List (List Int)} {f : FuncId} {cap : List PV}
end
set_option maxHeartbeats 2000000 in
set_option maxRecDepth 100000 in
theorem equalFuncL_s {b1 b2 : Bool} {us vs : List (List Int)} {f : FuncId} (hx : us.length ≤ 1000000) (hy : vs.length ≤ 1000000) (hf : ∀ x y : List Int, SC Try.prog f [pli x, pli y] (.sc (.bool (decide (x = y))))) :
    SC Try.prog 65 [.lst b1 1 us.length (us.map pli), .lst b2 1 vs.length (vs.map pli), .clo f []] (.sc (.bool (decide (us = vs)))) := by
  refine SC.go {} tok mixed Try.func65 rfl rfl Try.ntmps65 rfl rfl (by kernel_rfl) ?_
  first | simp only [updS] | simp only [updL, Nat.reduceAdd]
  by_cases hl : us.length = vs.length
  · repeat (first | refine S0 ?_ | refine S1 ?_ | refine S2 ?_ | refine S4 ?_ | refine S5 ?_ | refine S6 ?_ | refine S7 ?_ | refine S8 ?_ | refine S9 ?_ | refine S10 ?_ | refine S11 ?_ | refine S12 ?_ | refine S13 ?_ | refine S15 ?_ | refine S16 ?_ | refine S19 ?_ | refine S20 ?_ | refine S21 ?_ | refine S22 ?_ | refine S23 ?_ | refine S24 ?_ | refine S25 ?_ | refine S26 ?_ | refine S27 ?_ | refine S28 ?_ | refine S29 ?_ | refine S36 ?_ | refine S65 ?_)
    refine CW.loopS (fun k : Nat => k ≤ us.length ∧ us.take k = vs.take k) (fun k => [(1, .lst b2 1 vs.length (vs.map pli)), (2, .clo f []), (15, .lst b1 1 us.length (us.map pli)), (16, pint us.length), (17, pint k)]) (fun _ _ => True) (fun k => us.length - k) 0 ⟨⟨by omega, rfl⟩, SLx, trivial⟩ ?_
    rintro k t h ⟨hk, hg⟩ _
    first | simp only [updS] | simp only [updL, Nat.reduceAdd]
    by_cases hk2 : k < us.length
    · have hs := hf (us.getD k []) (vs.getD k [])
      by_cases he : us.getD k [] = vs.getD k []
      · rw [decide_eq_true he] at hs
        repeat (first | refine S0 ?_ | refine S1 ?_ | refine S2 ?_ | refine S4 ?_ | refine S5 ?_ | refine S6 ?_ | refine S7 ?_ | refine S8 ?_ | refine S9 ?_ | refine S10 ?_ | refine S11 ?_ | refine S12 ?_ | refine S13 ?_ | refine S15 ?_ | refine S16 ?_ | refine S19 ?_ | refine S20 ?_ | refine S21 ?_ | refine S22 ?_ | refine S23 ?_ | refine S24 ?_ | refine S25 ?_ | refine S26 ?_ | refine S27 ?_ | refine S28 ?_ | refine S29 ?_ | refine S36 ?_ | refine S65 ?_)
        refine Scallv (args := [pli (us.getD k []), pli (vs.getD k [])]) hs ?_
        repeat (first | refine S0 ?_ | refine S1 ?_ | refine S2 ?_ | refine S4 ?_ | refine S5 ?_ | refine S6 ?_ | refine S7 ?_ | refine S8 ?_ | refine S9 ?_ | refine S10 ?_ | refine S11 ?_ | refine S12 ?_ | refine S13 ?_ | refine S15 ?_ | refine S16 ?_ | refine S19 ?_ | refine S20 ?_ | refine S21 ?_ | refine S22 ?_ | refine S23 ?_ | refine S24 ?_ | refine S25 ?_ | refine S26 ?_ | refine S27 ?_ | refine S28 ?_ | refine S29 ?_ | refine S36 ?_ | refine S65 ?_)
        refine ⟨k + 1, ⟨by omega, ?_⟩, SLx, trivial, by omega⟩
        rw [getD_lt [] hk2, getD_lt [] (show k < vs.length by omega)] at he
        rw [List.take_succ_eq_append_getElem hk2, List.take_succ_eq_append_getElem (show k < vs.length by omega), hg, he]
      · rw [decide_eq_false he] at hs
        repeat (first | refine S0 ?_ | refine S1 ?_ | refine S2 ?_ | refine S4 ?_ | refine S5 ?_ | refine S6 ?_ | refine S7 ?_ | refine S8 ?_ | refine S9 ?_ | refine S10 ?_ | refine S11 ?_ | refine S12 ?_ | refine S13 ?_ | refine S15 ?_ | refine S16 ?_ | refine S19 ?_ | refine S20 ?_ | refine S21 ?_ | refine S22 ?_ | refine S23 ?_ | refine S24 ?_ | refine S25 ?_ | refine S26 ?_ | refine S27 ?_ | refine S28 ?_ | refine S29 ?_ | refine S36 ?_ | refine S65 ?_)
        refine Scallv (args := [pli (us.getD k []), pli (vs.getD k [])]) hs ?_
        repeat (first | refine S0 ?_ | refine S1 ?_ | refine S2 ?_ | refine S4 ?_ | refine S5 ?_ | refine S6 ?_ | refine S7 ?_ | refine S8 ?_ | refine S9 ?_ | refine S10 ?_ | refine S11 ?_ | refine S12 ?_ | refine S13 ?_ | refine S15 ?_ | refine S16 ?_ | refine S19 ?_ | refine S20 ?_ | refine S21 ?_ | refine S22 ?_ | refine S23 ?_ | refine S24 ?_ | refine S25 ?_ | refine S26 ?_ | refine S27 ?_ | refine S28 ?_ | refine S29 ?_ | refine S36 ?_ | refine S65 ?_)
        rw [show decide (us = vs) = false from decide_eq_false (fun e => he (by rw [e]))]
        exact ⟨.inr rfl, .cl rfl⟩
    · repeat (first | refine S0 ?_ | refine S1 ?_ | refine S2 ?_ | refine S4 ?_ | refine S5 ?_ | refine S6 ?_ | refine S7 ?_ | refine S8 ?_ | refine S9 ?_ | refine S10 ?_ | refine S11 ?_ | refine S12 ?_ | refine S13 ?_ | refine S15 ?_ | refine S16 ?_ | refine S19 ?_ | refine S20 ?_ | refine S21 ?_ | refine S22 ?_ | refine S23 ?_ | refine S24 ?_ | refine S25 ?_ | refine S26 ?_ | refine S27 ?_ | refine S28 ?_ | refine S29 ?_ | refine S36 ?_ | refine S65 ?_)
      have e : us = vs := by rw [List.take_of_length_le (by omega), List.take_of_length_le (by omega)] at hg; exact hg
      rw [show decide (us = vs) = true from decide_eq_true e]
      exact ⟨.inr rfl, .cl rfl⟩
  · repeat (first | refine S0 ?_ | refine S1 ?_ | refine S2 ?_ | refine S4 ?_ | refine S5 ?_ | refine S6 ?_ | refine S7 ?_ | refine S8 ?_ | refine S9 ?_ | refine S10 ?_ | refine S11 ?_ | refine S12 ?_ | refine S13 ?_ | refine S15 ?_ | refine S16 ?_ | refine S19 ?_ | refine S20 ?_ | refine S21 ?_ | refine S22 ?_ | refine S23 ?_ | refine S24 ?_ | refine S25 ?_ | refine S26 ?_ | refine S27 ?_ | refine S28 ?_ | refine S29 ?_ | refine S36 ?_ | refine S65 ?_)
    rw [show decide (us = vs) = false from decide_eq_false (fun e => hl (by rw [e]))]
    exact ⟨.inr rfl, .cl rfl⟩
end Go.Proofs.Ytenoiklocdoemaa

/- timbtop.equal, by the kernel's run of garside.Equal and the images of artin. No condition of its own. -/
set_option linter.unusedVariables false
set_option linter.unusedSimpArgs false
namespace Go.Proofs.Ytenoiklocdoemaa
open Go.RowKit

theorem img_ne : imgT 3 [1, 2] ≠ imgT 3 [2, 1] := by decide
set_option maxHeartbeats 4000000 in
set_option maxRecDepth 100000 in
theorem aequal_t : SC Try.prog 43 [pint 3, pli [1, 2], pli [2, 1]] (.tup [.sc (.bool false), pint 0]) := by
  have k1 := images_s (N := 3) (w := [1, 2]) (by decide) (by decide)
  have k2 := images_s (N := 3) (w := [2, 1]) (by decide) (by decide)
  have k3 := equalFuncL_s (b1 := false) (b2 := false) (us := imgT 3 [1, 2]) (vs := imgT 3 [2, 1]) (by decide) (by decide) (fun x y => equal_s x y)
  rw [decide_eq_false img_ne] at k3
  generalize imgT 3 [1, 2] = I at k1 k3
  generalize imgT 3 [2, 1] = J at k2 k3
  refine SC.go {} tok mixed Try.func43 rfl rfl Try.ntmps43 rfl rfl (by kernel_rfl) ?_
  first | simp only [updS] | simp only [updL, Nat.reduceAdd]
  repeat (first | refine S0 ?_ | refine S1 ?_ | refine S2 ?_ | refine S5 ?_ | refine S7 ?_ | refine S8 ?_ | refine S16 ?_ | refine S19 ?_ | refine S20 ?_ | refine S28 ?_ | refine S29 ?_ | refine S34 ?_ | refine S36 ?_ | refine S37 ?_ | refine S40 ?_ | refine S49 ?_)
  refine Scall (args := [pint 3, pli [1, 2]]) k1 ?_
  repeat (first | refine S0 ?_ | refine S1 ?_ | refine S2 ?_ | refine S5 ?_ | refine S7 ?_ | refine S8 ?_ | refine S16 ?_ | refine S19 ?_ | refine S20 ?_ | refine S28 ?_ | refine S29 ?_ | refine S34 ?_ | refine S36 ?_ | refine S37 ?_ | refine S40 ?_ | refine S49 ?_)
  refine Scall (args := [pint 3, pli [2, 1]]) k2 ?_
  repeat (first | refine S0 ?_ | refine S1 ?_ | refine S2 ?_ | refine S5 ?_ | refine S7 ?_ | refine S8 ?_ | refine S16 ?_ | refine S19 ?_ | refine S20 ?_ | refine S28 ?_ | refine S29 ?_ | refine S34 ?_ | refine S36 ?_ | refine S37 ?_ | refine S40 ?_ | refine S49 ?_)
  refine Scall (args := [plls I, plls J, .clo 32 []]) k3 ?_
  repeat (first | refine S0 ?_ | refine S1 ?_ | refine S2 ?_ | refine S5 ?_ | refine S7 ?_ | refine S8 ?_ | refine S16 ?_ | refine S19 ?_ | refine S20 ?_ | refine S28 ?_ | refine S29 ?_ | refine S34 ?_ | refine S36 ?_ | refine S37 ?_ | refine S40 ?_ | refine S49 ?_)
  exact ⟨.inr rfl, .cl rfl⟩
set_option maxHeartbeats 4000000 in
set_option maxRecDepth 100000 in
theorem equalT_s : SC Try.prog 20 [] (.sc (.bool true)) := by
  have k1 : SC Try.prog 42 [pint 3, plt [1, 2, 1], plt [2, 1, 2]] (.tup [.sc (.bool true), pint 0]) := SC.weak gequal_t rfl
  have k2 : SC Try.prog 43 [pint 3, plt [1, 2], plt [2, 1]] (.tup [.sc (.bool false), pint 0]) := SC.weak aequal_t rfl
  refine SC.go {} tok mixed Try.func20 rfl rfl Try.ntmps20 rfl rfl (by kernel_rfl) ?_
  first | simp only [updS] | simp only [updL, Nat.reduceAdd]
  repeat (first | refine S0 ?_ | refine S1 ?_ | refine S2 ?_ | refine S5 ?_ | refine S7 ?_ | refine S8 ?_ | refine S16 ?_ | refine S19 ?_ | refine S20 ?_ | refine S28 ?_ | refine S29 ?_ | refine S34 ?_ | refine S36 ?_ | refine S37 ?_ | refine S40 ?_ | refine S49 ?_)
  refine Scall (args := [pint 3, plt [1, 2, 1], plt [2, 1, 2]]) k1 ?_
  repeat (first | refine S0 ?_ | refine S1 ?_ | refine S2 ?_ | refine S5 ?_ | refine S7 ?_ | refine S8 ?_ | refine S16 ?_ | refine S19 ?_ | refine S20 ?_ | refine S28 ?_ | refine S29 ?_ | refine S34 ?_ | refine S36 ?_ | refine S37 ?_ | refine S40 ?_ | refine S49 ?_)
  refine Scall (args := [pint 3, plt [1, 2], plt [2, 1]]) k2 ?_
  repeat (first | refine S0 ?_ | refine S1 ?_ | refine S2 ?_ | refine S5 ?_ | refine S7 ?_ | refine S8 ?_ | refine S16 ?_ | refine S19 ?_ | refine S20 ?_ | refine S28 ?_ | refine S29 ?_ | refine S34 ?_ | refine S36 ?_ | refine S37 ?_ | refine S40 ?_ | refine S49 ?_)
  exact ⟨.inr rfl, .cl rfl⟩
end Go.Proofs.Ytenoiklocdoemaa

/- The law TopBurauDet holds for all numbers and lists. No condition of its own. -/
set_option linter.unusedVariables false
set_option linter.unusedSimpArgs false
namespace Go.Proofs.Ytenoiklocdoemaa
open Go.RowKit

set_option maxHeartbeats 4000000 in
set_option maxRecDepth 100000 in
theorem sameT_s (p q : Po) : SC Try.prog 21 [ppo p, ppo q] (.sc (.bool (decide (p = q)))) := by
  obtain ⟨l1, c1⟩ := p
  obtain ⟨l2, c2⟩ := q
  refine SC.go {} tok mixed Try.func21 rfl rfl Try.ntmps21 rfl rfl (by kernel_rfl) ?_
  first | simp only [updS] | simp only [updL, Nat.reduceAdd]
  by_cases h1 : l1 = l2
  · repeat (first | refine S0 ?_ | refine S1 ?_ | refine S2 ?_ | refine S7 ?_ | refine S8 ?_ | refine S19 ?_ | refine S20 ?_ | refine S26 ?_ | refine S28 ?_ | refine S33 ?_ | refine S34 ?_ | refine S37 ?_ | refine S38 ?_ | refine S40 ?_ | refine S41 ?_ | refine S43 ?_ | refine S44 ?_ | refine S48 ?_ | refine S49 ?_ | refine S51 ?_ | refine S66 ?_ | refine S68 ?_ | refine S69 ?_)
    refine Scall (args := [pli c1, pli c2]) (equal_s c1 c2) ?_
    repeat (first | refine S0 ?_ | refine S1 ?_ | refine S2 ?_ | refine S7 ?_ | refine S8 ?_ | refine S19 ?_ | refine S20 ?_ | refine S26 ?_ | refine S28 ?_ | refine S33 ?_ | refine S34 ?_ | refine S37 ?_ | refine S38 ?_ | refine S40 ?_ | refine S41 ?_ | refine S43 ?_ | refine S44 ?_ | refine S48 ?_ | refine S49 ?_ | refine S51 ?_ | refine S66 ?_ | refine S68 ?_ | refine S69 ?_)
    rw [show decide ((l1, c1) = (l2, c2)) = decide (c1 = c2) by simp [h1]]
    exact ⟨.inr rfl, .cl rfl⟩
  · repeat (first | refine S0 ?_ | refine S1 ?_ | refine S2 ?_ | refine S7 ?_ | refine S8 ?_ | refine S19 ?_ | refine S20 ?_ | refine S26 ?_ | refine S28 ?_ | refine S33 ?_ | refine S34 ?_ | refine S37 ?_ | refine S38 ?_ | refine S40 ?_ | refine S41 ?_ | refine S43 ?_ | refine S44 ?_ | refine S48 ?_ | refine S49 ?_ | refine S51 ?_ | refine S66 ?_ | refine S68 ?_ | refine S69 ?_)
    rw [show decide ((l1, c1) = (l2, c2)) = false by simp [h1]]
    exact ⟨.inr rfl, .cl rfl⟩
theorem sameL_s (p : Po) (l v : Int) (h : p = (l, [v])) : SC Try.prog 21 [ppo p, .agg [pint l, .lst true 1 1 [pint v]]] (.sc (.bool true)) := by
  have k := sameT_s p (l, [v])
  rw [decide_eq_true h] at k
  refine k.wk rfl (fun i hi => ?_)
  match i, hi with
  | 0, _ => exact .refl _
  | 1, _ =>
    refine .agg rfl (fun j hj => ?_)
    match j, hj with
    | 0, _ => exact .refl _
    | 1, _ => exact .lst (ds := [pint v]) rfl (fun j _ => .refl _)
    | j + 2, hj => exact absurd hj (by simp)
  | i + 2, hi => exact absurd hi (by simp)
set_option maxHeartbeats 16000000 in
set_option maxRecDepth 100000 in
theorem burauDet_s (n : Int) (a : List Int) : SC Try.prog 4 [pint n, pli a] (.sc (.bool true)) := by
  have kn := strands_s n 4 (by decide)
  have h1 := Int.emod_nonneg n (show (4 - 1 : Int) ≠ 0 by decide)
  have h2 := Int.emod_lt_of_pos n (show (0 : Int) < 4 - 1 by decide)
  obtain ⟨N, hN⟩ : ∃ N : Nat, 2 + n % (4 - 1) = (N : Int) := ⟨(2 + n % (4 - 1)).toNat, by omega⟩
  rw [hN] at kn
  have hN2 : 2 ≤ N ∧ N ≤ 4 := by omega
  have kx := word_s ((N : Int) - 1) a 9 (by omega) (by decide)
  have lx : ∀ z ∈ mkW ((N : Int) - 1) a 9, letP N z := fun z hz => by
    obtain ⟨q, _, rfl⟩ := List.mem_map.1 hz
    have := mkL_let (top := (N : Int) - 1) (x := q) (by omega)
    rwa [show (N : Int) - 1 + 1 = N by omega] at this
  have ll : (mkW ((N : Int) - 1) a 9).length ≤ 9 := by unfold mkW; simp; omega
  generalize mkW ((N : Int) - 1) a 9 = x at *
  have hb0 : bF N x = 0 := by
    unfold bF
    rw [if_neg (by omega), if_neg (by omega), if_pos lx]
  have wd : Wd N x := ⟨by omega, by omega, fun k hk => lx _ (by rw [getD_lt 0 hk]; exact List.getElem_mem hk)⟩
  have kb := burau_s N x
  have hf : burauF N x = 0 := by unfold burauF; rw [if_neg (by rw [hb0]; simp), if_neg (by omega)]
  have hr : burR N x = (List.range N).map (rowP (burM x) N) := by unfold burR; rw [if_pos hf, Int.toNat_natCast]
  rw [hf, hr] at kb
  have kd := pdet_s ((List.range N).map (rowP (burM x) N))
  obtain ⟨d1, d2⟩ := det_ok (N := N) (x := x) (by omega) ll (fun y hy => by obtain ⟨q1, q2, q3⟩ := lx y hy; omega)
  rw [d1, d2] at kd
  have ks := esum_ok wd hb0
  rw [sum_wS x _ (Nat.le_refl _), List.take_length] at ks
  have hws : -9 ≤ wS x ∧ wS x ≤ 9 := by
    have h1 := sumTo_bd x x.length
    rw [sum_wS x _ (Nat.le_refl _), List.take_length] at h1
    omega
  have ke := equalT_s
  have km := sameL_s (wS x, [sgn x.length]) (wS x) (1 - 2 * (wS x % 2)) (by rw [sgn_wS])
  generalize (List.range N).map (rowP (burM x) N) = m at *
  generalize sgn x.length = v at *
  generalize wS x = s at *
  refine SC.go {} tok mixed Try.func4 rfl rfl Try.ntmps4 rfl rfl (by kernel_rfl) ?_
  first | simp only [updS] | simp only [updL, Nat.reduceAdd]
  repeat (first | refine S0 ?_ | refine S1 ?_ | refine S2 ?_ | refine S7 ?_ | refine S8 ?_ | refine S19 ?_ | refine S20 ?_ | refine S26 ?_ | refine S28 ?_ | refine S33 ?_ | refine S34 ?_ | refine S37 ?_ | refine S38 ?_ | refine S40 ?_ | refine S41 ?_ | refine S43 ?_ | refine S44 ?_ | refine S48 ?_ | refine S49 ?_ | refine S51 ?_ | refine S66 ?_ | refine S68 ?_ | refine S69 ?_)
  refine Scall (args := [pint n, pint 4]) kn ?_
  repeat (first | refine S0 ?_ | refine S1 ?_ | refine S2 ?_ | refine S7 ?_ | refine S8 ?_ | refine S19 ?_ | refine S20 ?_ | refine S26 ?_ | refine S28 ?_ | refine S33 ?_ | refine S34 ?_ | refine S37 ?_ | refine S38 ?_ | refine S40 ?_ | refine S41 ?_ | refine S43 ?_ | refine S44 ?_ | refine S48 ?_ | refine S49 ?_ | refine S51 ?_ | refine S66 ?_ | refine S68 ?_ | refine S69 ?_)
  refine Scall (args := [pint ((N : Int) - 1), pli a, pint (9 : Nat)]) kx ?_
  repeat (first | refine S0 ?_ | refine S1 ?_ | refine S2 ?_ | refine S7 ?_ | refine S8 ?_ | refine S19 ?_ | refine S20 ?_ | refine S26 ?_ | refine S28 ?_ | refine S33 ?_ | refine S34 ?_ | refine S37 ?_ | refine S38 ?_ | refine S40 ?_ | refine S41 ?_ | refine S43 ?_ | refine S44 ?_ | refine S48 ?_ | refine S49 ?_ | refine S51 ?_ | refine S66 ?_ | refine S68 ?_ | refine S69 ?_)
  refine Scall (args := [pint N, pli x]) kb ?_
  repeat (first | refine S0 ?_ | refine S1 ?_ | refine S2 ?_ | refine S7 ?_ | refine S8 ?_ | refine S19 ?_ | refine S20 ?_ | refine S26 ?_ | refine S28 ?_ | refine S33 ?_ | refine S34 ?_ | refine S37 ?_ | refine S38 ?_ | refine S40 ?_ | refine S41 ?_ | refine S43 ?_ | refine S44 ?_ | refine S48 ?_ | refine S49 ?_ | refine S51 ?_ | refine S66 ?_ | refine S68 ?_ | refine S69 ?_)
  refine Scall (args := [ppss m]) kd ?_
  repeat (first | refine S0 ?_ | refine S1 ?_ | refine S2 ?_ | refine S7 ?_ | refine S8 ?_ | refine S19 ?_ | refine S20 ?_ | refine S26 ?_ | refine S28 ?_ | refine S33 ?_ | refine S34 ?_ | refine S37 ?_ | refine S38 ?_ | refine S40 ?_ | refine S41 ?_ | refine S43 ?_ | refine S44 ?_ | refine S48 ?_ | refine S49 ?_ | refine S51 ?_ | refine S66 ?_ | refine S68 ?_ | refine S69 ?_)
  refine Scall (args := [pint N, pli x]) ks ?_
  repeat (first | refine S0 ?_ | refine S1 ?_ | refine S2 ?_ | refine S7 ?_ | refine S8 ?_ | refine S19 ?_ | refine S20 ?_ | refine S26 ?_ | refine S28 ?_ | refine S33 ?_ | refine S34 ?_ | refine S37 ?_ | refine S38 ?_ | refine S40 ?_ | refine S41 ?_ | refine S43 ?_ | refine S44 ?_ | refine S48 ?_ | refine S49 ?_ | refine S51 ?_ | refine S66 ?_ | refine S68 ?_ | refine S69 ?_)
  refine Scall (args := []) ke ?_
  repeat (first | refine S0 ?_ | refine S1 ?_ | refine S2 ?_ | refine S7 ?_ | refine S8 ?_ | refine S19 ?_ | refine S20 ?_ | refine S26 ?_ | refine S28 ?_ | refine S33 ?_ | refine S34 ?_ | refine S37 ?_ | refine S38 ?_ | refine S40 ?_ | refine S41 ?_ | refine S43 ?_ | refine S44 ?_ | refine S48 ?_ | refine S49 ?_ | refine S51 ?_ | refine S66 ?_ | refine S68 ?_ | refine S69 ?_)
  refine AW.binf EVx EVx (bin_andS s hws _ _ _) ?_
  repeat (first | refine S0 ?_ | refine S1 ?_ | refine S2 ?_ | refine S7 ?_ | refine S8 ?_ | refine S19 ?_ | refine S20 ?_ | refine S26 ?_ | refine S28 ?_ | refine S33 ?_ | refine S34 ?_ | refine S37 ?_ | refine S38 ?_ | refine S40 ?_ | refine S41 ?_ | refine S43 ?_ | refine S44 ?_ | refine S48 ?_ | refine S49 ?_ | refine S51 ?_ | refine S66 ?_ | refine S68 ?_ | refine S69 ?_)
  refine Scall (args := [ppo (s, [v]), .agg [pint s, .lst true 1 1 [pint (1 - 2 * (s % 2))]]]) km ?_
  repeat (first | refine S0 ?_ | refine S1 ?_ | refine S2 ?_ | refine S7 ?_ | refine S8 ?_ | refine S19 ?_ | refine S20 ?_ | refine S26 ?_ | refine S28 ?_ | refine S33 ?_ | refine S34 ?_ | refine S37 ?_ | refine S38 ?_ | refine S40 ?_ | refine S41 ?_ | refine S43 ?_ | refine S44 ?_ | refine S48 ?_ | refine S49 ?_ | refine S51 ?_ | refine S66 ?_ | refine S68 ?_ | refine S69 ?_)
  exact ⟨.inr rfl, .cl rfl⟩
end Go.Proofs.Ytenoiklocdoemaa
