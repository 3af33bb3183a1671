/- slices.IndexFunc and ContainsFunc at lists of ints. No condition of its own. -/
import Derived.Test.YtenoiklocdoemaaGAlexanderMinorsAU
import Derived.Test.YtenoiklocdoemaaGAlexanderMinorsAV
set_option linter.unusedVariables false
set_option linter.unusedSimpArgs false
namespace Go.Proofs.Ytenoiklocdoemaa
open Go.RowKit

set_option maxHeartbeats 2000000 in
set_option maxRecDepth 100000 in
theorem indexFunc_none {xs : List Int} {f : FuncId} {cap : List PV} (hx : xs.length ≤ 1000000) (hcl : PV.cl.clL cap = true) (h : ∀ k, k < xs.length → SC Try.prog f (pint (xs.getD k 0) :: cap) (.sc (.bool false))) : SC Try.prog 69 [pli xs, .clo f cap] (pint (-1)) := by
  refine SC.go {} tok mixed Try.func69 rfl rfl Try.ntmps69 rfl rfl (by kernel_rfl) ?_
  first | simp only [updS] | simp only [updL, Nat.reduceAdd]
  repeat (first | refine S0 ?_ | refine S1 ?_ | refine S2 ?_ | refine S4 ?_ | refine S5 ?_ | refine S6 ?_ | refine S7 ?_ | refine S8 ?_ | refine S9 ?_ | refine S10 ?_ | refine S11 ?_ | refine S12 ?_ | refine S13 ?_ | refine S15 ?_ | refine S16 ?_ | refine S19 ?_ | refine S20 ?_ | refine S21 ?_ | refine S22 ?_ | refine S23 ?_ | refine S25 ?_ | refine S26 ?_ | refine S32 ?_)
  refine CW.loopS (fun k : Nat => k ≤ xs.length) (fun k => [(0, pli xs), (1, .clo f cap), (7, pint xs.length), (8, pint k)]) (fun _ _ => True) (fun k => xs.length - k) 0 ⟨by omega, SLx, trivial⟩ ?_
  rintro k t hp hk _
  first | simp only [updS] | simp only [updL, Nat.reduceAdd]
  by_cases hk2 : k < xs.length
  · have hs := h k hk2
    repeat (first | refine S0 ?_ | refine S1 ?_ | refine S2 ?_ | refine S4 ?_ | refine S5 ?_ | refine S6 ?_ | refine S7 ?_ | refine S8 ?_ | refine S9 ?_ | refine S10 ?_ | refine S11 ?_ | refine S12 ?_ | refine S13 ?_ | refine S15 ?_ | refine S16 ?_ | refine S19 ?_ | refine S20 ?_ | refine S21 ?_ | refine S22 ?_ | refine S23 ?_ | refine S25 ?_ | refine S26 ?_ | refine S32 ?_)
    refine Scallv (args := pint (xs.getD k 0) :: cap) hs ?_ (hc := by simp only [PV.cl.clL, pint_cl, hcl, Bool.and_self])
    repeat (first | refine S0 ?_ | refine S1 ?_ | refine S2 ?_ | refine S4 ?_ | refine S5 ?_ | refine S6 ?_ | refine S7 ?_ | refine S8 ?_ | refine S9 ?_ | refine S10 ?_ | refine S11 ?_ | refine S12 ?_ | refine S13 ?_ | refine S15 ?_ | refine S16 ?_ | refine S19 ?_ | refine S20 ?_ | refine S21 ?_ | refine S22 ?_ | refine S23 ?_ | refine S25 ?_ | refine S26 ?_ | refine S32 ?_)
    exact ⟨k + 1, by omega, SLx, trivial, by omega⟩
  · repeat (first | refine S0 ?_ | refine S1 ?_ | refine S2 ?_ | refine S4 ?_ | refine S5 ?_ | refine S6 ?_ | refine S7 ?_ | refine S8 ?_ | refine S9 ?_ | refine S10 ?_ | refine S11 ?_ | refine S12 ?_ | refine S13 ?_ | refine S15 ?_ | refine S16 ?_ | refine S19 ?_ | refine S20 ?_ | refine S21 ?_ | refine S22 ?_ | refine S23 ?_ | refine S25 ?_ | refine S26 ?_ | refine S32 ?_)
    exact ⟨.inr rfl, .cl rfl⟩
set_option maxHeartbeats 2000000 in
set_option maxRecDepth 100000 in
theorem indexFunc_some {xs : List Int} {f : FuncId} {cap : List PV} (hx : xs.length ≤ 1000000) (hcl : PV.cl.clL cap = true) {m : Nat} (hm : m < xs.length) (h : ∀ k, k < m → SC Try.prog f (pint (xs.getD k 0) :: cap) (.sc (.bool false))) (h2 : SC Try.prog f (pint (xs.getD m 0) :: cap) (.sc (.bool true))) : SC Try.prog 69 [pli xs, .clo f cap] (pint m) := by
  refine SC.go {} tok mixed Try.func69 rfl rfl Try.ntmps69 rfl rfl (by kernel_rfl) ?_
  first | simp only [updS] | simp only [updL, Nat.reduceAdd]
  repeat (first | refine S0 ?_ | refine S1 ?_ | refine S2 ?_ | refine S4 ?_ | refine S5 ?_ | refine S6 ?_ | refine S7 ?_ | refine S8 ?_ | refine S9 ?_ | refine S10 ?_ | refine S11 ?_ | refine S12 ?_ | refine S13 ?_ | refine S15 ?_ | refine S16 ?_ | refine S19 ?_ | refine S20 ?_ | refine S21 ?_ | refine S22 ?_ | refine S23 ?_ | refine S25 ?_ | refine S26 ?_ | refine S32 ?_)
  refine CW.loopS (fun k : Nat => k ≤ m) (fun k => [(0, pli xs), (1, .clo f cap), (7, pint xs.length), (8, pint k)]) (fun _ _ => True) (fun k => xs.length - k) 0 ⟨by omega, SLx, trivial⟩ ?_
  rintro k t hp hk _
  first | simp only [updS] | simp only [updL, Nat.reduceAdd]
  by_cases hk2 : k < m
  · have hs := h k hk2
    repeat (first | refine S0 ?_ | refine S1 ?_ | refine S2 ?_ | refine S4 ?_ | refine S5 ?_ | refine S6 ?_ | refine S7 ?_ | refine S8 ?_ | refine S9 ?_ | refine S10 ?_ | refine S11 ?_ | refine S12 ?_ | refine S13 ?_ | refine S15 ?_ | refine S16 ?_ | refine S19 ?_ | refine S20 ?_ | refine S21 ?_ | refine S22 ?_ | refine S23 ?_ | refine S25 ?_ | refine S26 ?_ | refine S32 ?_)
    refine Scallv (args := pint (xs.getD k 0) :: cap) hs ?_ (hc := by simp only [PV.cl.clL, pint_cl, hcl, Bool.and_self])
    repeat (first | refine S0 ?_ | refine S1 ?_ | refine S2 ?_ | refine S4 ?_ | refine S5 ?_ | refine S6 ?_ | refine S7 ?_ | refine S8 ?_ | refine S9 ?_ | refine S10 ?_ | refine S11 ?_ | refine S12 ?_ | refine S13 ?_ | refine S15 ?_ | refine S16 ?_ | refine S19 ?_ | refine S20 ?_ | refine S21 ?_ | refine S22 ?_ | refine S23 ?_ | refine S25 ?_ | refine S26 ?_ | refine S32 ?_)
    exact ⟨k + 1, by omega, SLx, trivial, by omega⟩
  · obtain rfl : k = m := by omega
    repeat (first | refine S0 ?_ | refine S1 ?_ | refine S2 ?_ | refine S4 ?_ | refine S5 ?_ | refine S6 ?_ | refine S7 ?_ | refine S8 ?_ | refine S9 ?_ | refine S10 ?_ | refine S11 ?_ | refine S12 ?_ | refine S13 ?_ | refine S15 ?_ | refine S16 ?_ | refine S19 ?_ | refine S20 ?_ | refine S21 ?_ | refine S22 ?_ | refine S23 ?_ | refine S25 ?_ | refine S26 ?_ | refine S32 ?_)
    refine Scallv (args := pint (xs.getD k 0) :: cap) h2 ?_ (hc := by simp only [PV.cl.clL, pint_cl, hcl, Bool.and_self])
    repeat (first | refine S0 ?_ | refine S1 ?_ | refine S2 ?_ | refine S4 ?_ | refine S5 ?_ | refine S6 ?_ | refine S7 ?_ | refine S8 ?_ | refine S9 ?_ | refine S10 ?_ | refine S11 ?_ | refine S12 ?_ | refine S13 ?_ | refine S15 ?_ | refine S16 ?_ | refine S19 ?_ | refine S20 ?_ | refine S21 ?_ | refine S22 ?_ | refine S23 ?_ | refine S25 ?_ | refine S26 ?_ | refine S32 ?_)
    exact ⟨.inr rfl, .cl rfl⟩
set_option maxHeartbeats 2000000 in
set_option maxRecDepth 100000 in
theorem containsFunc_x {xs : List Int} {f : FuncId} {cap : List PV} {z : Int} {b : Bool} (hcl : PV.cl.clL cap = true) (h : SC Try.prog 69 [pli xs, .clo f cap] (pint z)) (hb : decide (0 ≤ z) = b) : SC Try.prog 53 [pli xs, .clo f cap] (.sc (.bool b)) := by
  refine SC.go {} tok mixed Try.func53 rfl rfl Try.ntmps53 rfl rfl (by kernel_rfl) ?_
  first | simp only [updS] | simp only [updL, Nat.reduceAdd]
  repeat (first | refine S0 ?_ | refine S1 ?_ | refine S2 ?_ | refine S4 ?_ | refine S5 ?_ | refine S6 ?_ | refine S7 ?_ | refine S8 ?_ | refine S9 ?_ | refine S10 ?_ | refine S11 ?_ | refine S12 ?_ | refine S13 ?_ | refine S15 ?_ | refine S16 ?_ | refine S19 ?_ | refine S20 ?_ | refine S21 ?_ | refine S22 ?_ | refine S23 ?_ | refine S25 ?_ | refine S26 ?_ | refine S32 ?_)
  refine Scall (args := [pli xs, .clo f cap]) h ?_ (hc := by simp only [PV.cl.clL, PV.cl, pli_cl, hcl, Bool.and_self])
  repeat (first | refine S0 ?_ | refine S1 ?_ | refine S2 ?_ | refine S4 ?_ | refine S5 ?_ | refine S6 ?_ | refine S7 ?_ | refine S8 ?_ | refine S9 ?_ | refine S10 ?_ | refine S11 ?_ | refine S12 ?_ | refine S13 ?_ | refine S15 ?_ | refine S16 ?_ | refine S19 ?_ | refine S20 ?_ | refine S21 ?_ | refine S22 ?_ | refine S23 ?_ | refine S25 ?_ | refine S26 ?_ | refine S32 ?_)
  rw [hb]
  exact ⟨.inr rfl, .cl rfl⟩
end Go.Proofs.Ytenoiklocdoemaa

/- laurent.Trim, Term and Plus. No condition of its own. -/
set_option linter.unusedVariables false
set_option linter.unusedSimpArgs false
namespace Go.Proofs.Ytenoiklocdoemaa
open Go.RowKit

set_option maxHeartbeats 2000000 in
set_option maxRecDepth 100000 in
theorem isz_s (x : Int) : SC Try.prog 70 [pint x] (.sc (.bool (decide (x = 0)))) := by
  refine SC.go {} tok mixed Try.func70 rfl rfl Try.ntmps70 rfl rfl (by kernel_rfl) ?_
  first | simp only [updS] | simp only [updL, Nat.reduceAdd]
  repeat (first | refine S0 ?_ | refine S1 ?_ | refine S2 ?_ | refine S3 ?_ | refine S4 ?_ | refine S5 ?_ | refine S6 ?_ | refine S7 ?_ | refine S8 ?_ | refine S9 ?_ | refine S10 ?_ | refine S11 ?_ | refine S13 ?_ | refine S15 ?_ | refine S16 ?_ | refine S19 ?_ | refine S20 ?_ | refine S21 ?_ | refine S22 ?_ | refine S23 ?_ | refine S25 ?_ | refine S26 ?_ | refine S28 ?_ | refine S33 ?_ | refine S36 ?_ | refine S56 ?_ | refine S61 ?_ | refine S65 ?_ | refine S66 ?_ | refine S68 ?_ | refine S69 ?_)
  exact ⟨.inr rfl, .cl rfl⟩
set_option maxHeartbeats 2000000 in
set_option maxRecDepth 100000 in
theorem isnz_s (x : Int) : SC Try.prog 71 [pint x, .lptr [.clo 70 []]] (.sc (.bool (!decide (x = 0)))) := by
  refine SC.go {} tok mixed Try.func71 rfl rfl Try.ntmps71 rfl rfl (by kernel_rfl) ?_
  first | simp only [updS] | simp only [updL, Nat.reduceAdd]
  repeat (first | refine S0 ?_ | refine S1 ?_ | refine S2 ?_ | refine S3 ?_ | refine S4 ?_ | refine S5 ?_ | refine S6 ?_ | refine S7 ?_ | refine S8 ?_ | refine S9 ?_ | refine S10 ?_ | refine S11 ?_ | refine S13 ?_ | refine S15 ?_ | refine S16 ?_ | refine S19 ?_ | refine S20 ?_ | refine S21 ?_ | refine S22 ?_ | refine S23 ?_ | refine S25 ?_ | refine S26 ?_ | refine S28 ?_ | refine S33 ?_ | refine S36 ?_ | refine S56 ?_ | refine S61 ?_ | refine S65 ?_ | refine S66 ?_ | refine S68 ?_ | refine S69 ?_)
  refine Scallv (args := [pint x]) (isz_s x) ?_
  repeat (first | refine S0 ?_ | refine S1 ?_ | refine S2 ?_ | refine S3 ?_ | refine S4 ?_ | refine S5 ?_ | refine S6 ?_ | refine S7 ?_ | refine S8 ?_ | refine S9 ?_ | refine S10 ?_ | refine S11 ?_ | refine S13 ?_ | refine S15 ?_ | refine S16 ?_ | refine S19 ?_ | refine S20 ?_ | refine S21 ?_ | refine S22 ?_ | refine S23 ?_ | refine S25 ?_ | refine S26 ?_ | refine S28 ?_ | refine S33 ?_ | refine S36 ?_ | refine S56 ?_ | refine S61 ?_ | refine S65 ?_ | refine S66 ?_ | refine S68 ?_ | refine S69 ?_)
  exact ⟨.inr rfl, .cl rfl⟩
set_option maxHeartbeats 2000000 in
set_option maxRecDepth 100000 in
theorem trim_s (low : Int) (c : List Int) (hlow : -1000000000000 ≤ low ∧ low ≤ 1000000000000) (hc : c.length ≤ 1000000) : SC Try.prog 57 [pint low, pli c] (ppo (cano (co (low, c)))) := by
  refine SC.go {} tok mixed Try.func57 rfl rfl Try.ntmps57 rfl rfl (by kernel_rfl) ?_
  first | simp only [updS] | simp only [updL, Nat.reduceAdd]
  iterate 11 (first | refine S0 ?_ | refine S1 ?_ | refine S2 ?_ | refine S3 ?_ | refine S4 ?_ | refine S5 ?_ | refine S6 ?_ | refine S7 ?_ | refine S8 ?_ | refine S9 ?_ | refine S10 ?_ | refine S11 ?_ | refine S13 ?_ | refine S15 ?_ | refine S16 ?_ | refine S19 ?_ | refine S20 ?_ | refine S21 ?_ | refine S22 ?_ | refine S23 ?_ | refine S25 ?_ | refine S26 ?_ | refine S28 ?_ | refine S33 ?_ | refine S36 ?_ | refine S56 ?_ | refine S61 ?_ | refine S65 ?_ | refine S66 ?_ | refine S68 ?_ | refine S69 ?_)
  refine CW.freezeP 5 rfl HBx ?_
  repeat (first | refine S0 ?_ | refine S1 ?_ | refine S2 ?_ | refine S3 ?_ | refine S4 ?_ | refine S5 ?_ | refine S6 ?_ | refine S7 ?_ | refine S8 ?_ | refine S9 ?_ | refine S10 ?_ | refine S11 ?_ | refine S13 ?_ | refine S15 ?_ | refine S16 ?_ | refine S19 ?_ | refine S20 ?_ | refine S21 ?_ | refine S22 ?_ | refine S23 ?_ | refine S25 ?_ | refine S26 ?_ | refine S28 ?_ | refine S33 ?_ | refine S36 ?_ | refine S56 ?_ | refine S61 ?_ | refine S65 ?_ | refine S66 ?_ | refine S68 ?_ | refine S69 ?_)
  by_cases hz : ∀ j, j < c.length → c.getD j 0 = 0
  · rw [canon_none hz]
    refine Scall (args := [pli c, .clo 71 [.lptr [.clo 70 []]]]) (indexFunc_none hc rfl (fun k hk => ?_)) ?_
    · rw [hz k hk]; exact isnz_s 0
    repeat (first | refine S0 ?_ | refine S1 ?_ | refine S2 ?_ | refine S3 ?_ | refine S4 ?_ | refine S5 ?_ | refine S6 ?_ | refine S7 ?_ | refine S8 ?_ | refine S9 ?_ | refine S10 ?_ | refine S11 ?_ | refine S13 ?_ | refine S15 ?_ | refine S16 ?_ | refine S19 ?_ | refine S20 ?_ | refine S21 ?_ | refine S22 ?_ | refine S23 ?_ | refine S25 ?_ | refine S26 ?_ | refine S28 ?_ | refine S33 ?_ | refine S36 ?_ | refine S56 ?_ | refine S61 ?_ | refine S65 ?_ | refine S66 ?_ | refine S68 ?_ | refine S69 ?_)
    exact ⟨.inr rfl, FR.cell1 rfl HBx rfl rfl (.nrm rfl)⟩
  · obtain ⟨m, ⟨hm, hm2⟩, hmin⟩ := exists_least (fun j => j < c.length ∧ c.getD j 0 ≠ 0) (by
      apply Classical.byContradiction; intro hh
      exact hz (fun j hj => Classical.byContradiction fun h0 => hh ⟨j, hj, h0⟩))
    refine Scall (args := [pli c, .clo 71 [.lptr [.clo 70 []]]]) (indexFunc_some hc rfl hm (fun k hk => ?_) ?_) ?_
    · rw [show c.getD k 0 = 0 from Classical.byContradiction fun h0 => by have := hmin k ⟨by omega, h0⟩; omega]
      exact isnz_s 0
    · have := isnz_s (c.getD m 0)
      rwa [show decide (c.getD m 0 = 0) = false from decide_eq_false hm2] at this
    repeat (first | refine S0 ?_ | refine S1 ?_ | refine S2 ?_ | refine S3 ?_ | refine S4 ?_ | refine S5 ?_ | refine S6 ?_ | refine S7 ?_ | refine S8 ?_ | refine S9 ?_ | refine S10 ?_ | refine S11 ?_ | refine S13 ?_ | refine S15 ?_ | refine S16 ?_ | refine S19 ?_ | refine S20 ?_ | refine S21 ?_ | refine S22 ?_ | refine S23 ?_ | refine S25 ?_ | refine S26 ?_ | refine S28 ?_ | refine S33 ?_ | refine S36 ?_ | refine S56 ?_ | refine S61 ?_ | refine S65 ?_ | refine S66 ?_ | refine S68 ?_ | refine S69 ?_)
    refine CW.loopS (fun k : Int => m < k ∧ k ≤ c.length ∧ ∀ j : Nat, k ≤ j → c.getD j 0 = 0) (fun k => [(0, pint low), (1, pli c), (4, .ptr 1 0), (5, .lptr [.clo 70 []]), (6, pint m), (7, pint k)]) (fun _ hp => hp.blk 1 = some [pint 0, .lst true 0 0 []]) (fun k => k.toNat) c.length ⟨⟨by omega, by omega, fun j hj => getD_out (by omega)⟩, SLx, (by (try dsimp only); repeat' (first | exact HBx | exact SBx | refine And.intro ?_ ?_))⟩ ?_
    rintro k t h ⟨h1, h2, h3⟩ hB
    first | simp only [updS] | simp only [updL, Nat.reduceAdd]
    repeat (first | refine S0 ?_ | refine S1 ?_ | refine S2 ?_ | refine S3 ?_ | refine S4 ?_ | refine S5 ?_ | refine S6 ?_ | refine S7 ?_ | refine S8 ?_ | refine S9 ?_ | refine S10 ?_ | refine S11 ?_ | refine S13 ?_ | refine S15 ?_ | refine S16 ?_ | refine S19 ?_ | refine S20 ?_ | refine S21 ?_ | refine S22 ?_ | refine S23 ?_ | refine S25 ?_ | refine S26 ?_ | refine S28 ?_ | refine S33 ?_ | refine S36 ?_ | refine S56 ?_ | refine S61 ?_ | refine S65 ?_ | refine S66 ?_ | refine S68 ?_ | refine S69 ?_)
    refine Scallv (args := [pint (c.getD (k - 1).toNat 0)]) (isz_s _) ?_
    by_cases c1 : c.getD (k - 1).toNat 0 = 0
    · repeat (first | refine S0 ?_ | refine S1 ?_ | refine S2 ?_ | refine S3 ?_ | refine S4 ?_ | refine S5 ?_ | refine S6 ?_ | refine S7 ?_ | refine S8 ?_ | refine S9 ?_ | refine S10 ?_ | refine S11 ?_ | refine S13 ?_ | refine S15 ?_ | refine S16 ?_ | refine S19 ?_ | refine S20 ?_ | refine S21 ?_ | refine S22 ?_ | refine S23 ?_ | refine S25 ?_ | refine S26 ?_ | refine S28 ?_ | refine S33 ?_ | refine S36 ?_ | refine S56 ?_ | refine S61 ?_ | refine S65 ?_ | refine S66 ?_ | refine S68 ?_ | refine S69 ?_)
      refine ⟨k - 1, ⟨?_, by omega, fun j hj => ?_⟩, SLx, (by (try dsimp only); repeat' (first | exact HBx | exact SBx | refine And.intro ?_ ?_)), by omega⟩
      · apply Classical.byContradiction; intro hh
        rw [show (k - 1).toNat = m by omega] at c1
        exact hm2 c1
      · by_cases e : j = (k - 1).toNat
        · subst e; exact c1
        · exact h3 j (by omega)
    · repeat (first | refine S0 ?_ | refine S1 ?_ | refine S2 ?_ | refine S3 ?_ | refine S4 ?_ | refine S5 ?_ | refine S6 ?_ | refine S7 ?_ | refine S8 ?_ | refine S9 ?_ | refine S10 ?_ | refine S11 ?_ | refine S13 ?_ | refine S15 ?_ | refine S16 ?_ | refine S19 ?_ | refine S20 ?_ | refine S21 ?_ | refine S22 ?_ | refine S23 ?_ | refine S25 ?_ | refine S26 ?_ | refine S28 ?_ | refine S33 ?_ | refine S36 ?_ | refine S56 ?_ | refine S61 ?_ | refine S65 ?_ | refine S66 ?_ | refine S68 ?_ | refine S69 ?_)
      refine Scall (args := [pli ((c.take k.toNat).drop m)]) (clone_s _ (by simp; omega)) ?_
      repeat (first | refine S0 ?_ | refine S1 ?_ | refine S2 ?_ | refine S3 ?_ | refine S4 ?_ | refine S5 ?_ | refine S6 ?_ | refine S7 ?_ | refine S8 ?_ | refine S9 ?_ | refine S10 ?_ | refine S11 ?_ | refine S13 ?_ | refine S15 ?_ | refine S16 ?_ | refine S19 ?_ | refine S20 ?_ | refine S21 ?_ | refine S22 ?_ | refine S23 ?_ | refine S25 ?_ | refine S26 ?_ | refine S28 ?_ | refine S33 ?_ | refine S36 ?_ | refine S56 ?_ | refine S61 ?_ | refine S65 ?_ | refine S66 ?_ | refine S68 ?_ | refine S69 ?_)
      refine Scall (args := [pli ((c.take k.toNat).drop m)]) (clip_s _) ?_
      repeat (first | refine S0 ?_ | refine S1 ?_ | refine S2 ?_ | refine S3 ?_ | refine S4 ?_ | refine S5 ?_ | refine S6 ?_ | refine S7 ?_ | refine S8 ?_ | refine S9 ?_ | refine S10 ?_ | refine S11 ?_ | refine S13 ?_ | refine S15 ?_ | refine S16 ?_ | refine S19 ?_ | refine S20 ?_ | refine S21 ?_ | refine S22 ?_ | refine S23 ?_ | refine S25 ?_ | refine S26 ?_ | refine S28 ?_ | refine S33 ?_ | refine S36 ?_ | refine S56 ?_ | refine S61 ?_ | refine S65 ?_ | refine S66 ?_ | refine S68 ?_ | refine S69 ?_)
      rw [canon_slice (l := k.toNat) (by omega) (by omega) hm2 (by rw [show k.toNat - 1 = (k - 1).toNat by omega]; exact c1) (fun j hj => Classical.byContradiction fun h0 => by have := hmin j ⟨by omega, h0⟩; omega) (fun j hj => h3 j (by omega))]
      refine ⟨.inr rfl, FR.cell1 rfl HBx rfl rfl ?_⟩
      exact .nrm (by simp only [PV.cl, PV.cl.clL, ints_cl, Bool.and_self])
end Go.Proofs.Ytenoiklocdoemaa

/- laurent.Term and Plus. No condition of its own. -/
set_option linter.unusedVariables false
set_option linter.unusedSimpArgs false
namespace Go.Proofs.Ytenoiklocdoemaa
open Go.RowKit

set_option maxHeartbeats 2000000 in
set_option maxRecDepth 100000 in
theorem term_s (c e : Int) (he : -1000000000000 ≤ e ∧ e ≤ 1000000000000) : SC Try.prog 44 [pint c, pint e] (ppo (cano (co (e, [c])))) := by
  refine SC.go {} tok mixed Try.func44 rfl rfl Try.ntmps44 rfl rfl (by kernel_rfl) ?_
  first | simp only [updS] | simp only [updL, Nat.reduceAdd]
  repeat (first | refine S0 ?_ | refine S1 ?_ | refine S2 ?_ | refine S4 ?_ | refine S5 ?_ | refine S6 ?_ | refine S7 ?_ | refine S8 ?_ | refine S10 ?_ | refine S11 ?_ | refine S13 ?_ | refine S15 ?_ | refine S16 ?_ | refine S19 ?_ | refine S20 ?_ | refine S21 ?_ | refine S22 ?_ | refine S23 ?_ | refine S25 ?_ | refine S26 ?_ | refine S27 ?_ | refine S28 ?_ | refine S33 ?_ | refine S42 ?_ | refine S45 ?_ | refine S46 ?_ | refine S49 ?_ | refine S51 ?_ | refine S54 ?_ | refine S55 ?_ | refine S65 ?_ | refine S66 ?_ | refine S68 ?_ | refine S71 ?_)
  refine Scall (args := [pint e, .lst true 1 1 (ints [c])]) (SC.weak (trim_s e [c] he (by simp)) rfl) ?_
  repeat (first | refine S0 ?_ | refine S1 ?_ | refine S2 ?_ | refine S4 ?_ | refine S5 ?_ | refine S6 ?_ | refine S7 ?_ | refine S8 ?_ | refine S10 ?_ | refine S11 ?_ | refine S13 ?_ | refine S15 ?_ | refine S16 ?_ | refine S19 ?_ | refine S20 ?_ | refine S21 ?_ | refine S22 ?_ | refine S23 ?_ | refine S25 ?_ | refine S26 ?_ | refine S27 ?_ | refine S28 ?_ | refine S33 ?_ | refine S42 ?_ | refine S45 ?_ | refine S46 ?_ | refine S49 ?_ | refine S51 ?_ | refine S54 ?_ | refine S55 ?_ | refine S65 ?_ | refine S66 ?_ | refine S68 ?_ | refine S71 ?_)
  exact ⟨.inr rfl, FR.cell1 rfl HBx rfl rfl (.cl (by simp only [PV.cl, PV.cl.clL, pint_cl, pli_cl, Bool.and_self]))⟩
theorem co_moved {l l' : Int} {c : List Int} (h : c = [] ∨ l = l') : co (l, c) = co (l', c) := by
  rcases h with rfl | rfl
  · funext e; rw [co_nil, co_nil]
  · rfl
end Go.Proofs.Ytenoiklocdoemaa
