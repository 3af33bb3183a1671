/- multiplied. No condition of its own. -/
import Derived.Test.YtehilackpaejnaaPolyD
set_option linter.unusedVariables false
set_option linter.unusedSimpArgs false
namespace Go.Proofs.Ytehilackpaejnaa
open Go.RowKit

theorem prod_const : cano (pmul (0, [1, 1]) (0, [1, -1])) = (0, [1, 0, -1]) := by
  refine cano_eq (.inr ⟨by simp, by simp, by simp⟩) (fun e => ?_)
  have hp : pmul (0, [1, 1]) (0, [1, -1]) e = co (0, [1, -1]) e + co (0, [1, -1]) (e - 1) := by
    unfold pmul cvn
    simp [List.range_succ]
  rw [hp]
  by_cases h0 : e = 0
  · subst h0; decide
  by_cases h1 : e = 1
  · subst h1; decide
  by_cases h2 : e = 2
  · subst h2; decide
  by_cases h3 : 0 ≤ e
  · rw [co_hi (by simp; omega), co_hi (by simp; omega), co_hi (by simp; omega)]; rfl
  · rw [co_lo (by simp; omega), co_lo (by simp; omega), co_lo (by simp; omega)]; rfl
set_option maxHeartbeats 4000000 in
set_option maxRecDepth 100000 in
theorem multiplied_s : SC Try.prog 21 [] (.sc (.bool true)) := by
  have k1 : SC Try.prog 11 [.agg [pint 0, .lst true 1 2 (ints [1, 1])], .agg [pint 0, .lst true 1 2 (ints [1, -1])]] (.tup [ppo (0, [1, 0, -1]), pint 0]) := by
    have := mul_s (0, [1, 1]) (0, [1, -1])
    unfold opP at this
    rw [prod_const, show pF (0, [1, 1]) = 0 by decide, show pF (0, [1, -1]) = 0 by decide, show pF (0, [1, 0, -1]) = 0 by decide] at this
    exact SC.weak this rfl
  have k2 : SC Try.prog 20 [.agg [pint 0, pli [1, 0, -1]], .agg [pint 0, .lst true 1 3 (ints [1, 0, -1])]] (.sc (.bool true)) := SC.weak (same_s (0, [1, 0, -1]) (0, [1, 0, -1])) rfl
  refine SC.go {} tok mixed Try.func21 rfl rfl Try.ntmps21 rfl rfl (by kernel_rfl) ?_
  first | simp only [updS] | simp only [updL, Nat.reduceAdd]
  repeat (first | refine S0 ?_ | refine S1 ?_ | refine S2 ?_ | refine S3 ?_ | refine S4 ?_ | refine S5 ?_ | refine S6 ?_ | refine S7 ?_ | refine S8 ?_ | refine S9 ?_ | refine S10 ?_ | refine S11 ?_ | refine S12 ?_ | refine S13 ?_ | refine S14 ?_ | refine S15 ?_ | refine S16 ?_ | refine S17 ?_ ?_ | refine S18 ?_ | refine S19 ?_ | refine S20 ?_ | refine S21 ?_ | refine S22 ?_ | refine S23 ?_ | refine S24 ?_ | refine S25 ?_ | refine S26 ?_ | refine S27 ?_ | refine S28 ?_ | refine S29 ?_ | refine S30 ?_ | refine S31 ?_ | refine S32 ?_ | refine S33 ?_ | refine S34 ?_ | refine S35 ?_ | refine S36 ?_ | refine S37 ?_ | refine S38 ?_ | refine S39 ?_ | refine S40 ?_ | refine S41 ?_ | refine S42 ?_ | refine S43 ?_ | refine S44 ?_ | refine S45 ?_ | refine S46 ?_ | refine S47 ?_ | refine S48 ?_ | refine S49 ?_ | refine S50 ?_ | refine S51 ?_ | refine S52 ?_ | refine S53 ?_ | refine S54 ?_ | refine S55 ?_ | refine S56 ?_ | refine S57 ?_ | refine S58 ?_ | refine S59 ?_ | refine S60 ?_ | refine S61 ?_ | refine S62 ?_ | refine S63 ?_ | refine S64 ?_ | refine S65 ?_ | refine S66 ?_ | refine S67 ?_ | refine S68 ?_ | refine S69 ?_ | refine S70 ?_ | refine S71 ?_ | refine S72 ?_ | refine S73 ?_ | refine S74 ?_ | refine S75 ?_ | refine S76 ?_ | refine S77 ?_ | refine S78 ?_ | refine S79 ?_ | refine S80 ?_ | refine S81 ?_ | refine S82 ?_ | refine S83 ?_ | refine S84 ?_ | refine S85 ?_ | refine S86 ?_)
  refine Scall (args := [.agg [pint 0, .lst true 1 2 (ints [1, 1])], .agg [pint 0, .lst true 1 2 (ints [1, -1])]]) k1 ?_
  repeat (first | refine S0 ?_ | refine S1 ?_ | refine S2 ?_ | refine S3 ?_ | refine S4 ?_ | refine S5 ?_ | refine S6 ?_ | refine S7 ?_ | refine S8 ?_ | refine S9 ?_ | refine S10 ?_ | refine S11 ?_ | refine S12 ?_ | refine S13 ?_ | refine S14 ?_ | refine S15 ?_ | refine S16 ?_ | refine S17 ?_ ?_ | refine S18 ?_ | refine S19 ?_ | refine S20 ?_ | refine S21 ?_ | refine S22 ?_ | refine S23 ?_ | refine S24 ?_ | refine S25 ?_ | refine S26 ?_ | refine S27 ?_ | refine S28 ?_ | refine S29 ?_ | refine S30 ?_ | refine S31 ?_ | refine S32 ?_ | refine S33 ?_ | refine S34 ?_ | refine S35 ?_ | refine S36 ?_ | refine S37 ?_ | refine S38 ?_ | refine S39 ?_ | refine S40 ?_ | refine S41 ?_ | refine S42 ?_ | refine S43 ?_ | refine S44 ?_ | refine S45 ?_ | refine S46 ?_ | refine S47 ?_ | refine S48 ?_ | refine S49 ?_ | refine S50 ?_ | refine S51 ?_ | refine S52 ?_ | refine S53 ?_ | refine S54 ?_ | refine S55 ?_ | refine S56 ?_ | refine S57 ?_ | refine S58 ?_ | refine S59 ?_ | refine S60 ?_ | refine S61 ?_ | refine S62 ?_ | refine S63 ?_ | refine S64 ?_ | refine S65 ?_ | refine S66 ?_ | refine S67 ?_ | refine S68 ?_ | refine S69 ?_ | refine S70 ?_ | refine S71 ?_ | refine S72 ?_ | refine S73 ?_ | refine S74 ?_ | refine S75 ?_ | refine S76 ?_ | refine S77 ?_ | refine S78 ?_ | refine S79 ?_ | refine S80 ?_ | refine S81 ?_ | refine S82 ?_ | refine S83 ?_ | refine S84 ?_ | refine S85 ?_ | refine S86 ?_)
  refine Scall (args := [.agg [pint 0, pli [1, 0, -1]], .agg [pint 0, .lst true 1 3 (ints [1, 0, -1])]]) k2 ?_
  repeat (first | refine S0 ?_ | refine S1 ?_ | refine S2 ?_ | refine S3 ?_ | refine S4 ?_ | refine S5 ?_ | refine S6 ?_ | refine S7 ?_ | refine S8 ?_ | refine S9 ?_ | refine S10 ?_ | refine S11 ?_ | refine S12 ?_ | refine S13 ?_ | refine S14 ?_ | refine S15 ?_ | refine S16 ?_ | refine S17 ?_ ?_ | refine S18 ?_ | refine S19 ?_ | refine S20 ?_ | refine S21 ?_ | refine S22 ?_ | refine S23 ?_ | refine S24 ?_ | refine S25 ?_ | refine S26 ?_ | refine S27 ?_ | refine S28 ?_ | refine S29 ?_ | refine S30 ?_ | refine S31 ?_ | refine S32 ?_ | refine S33 ?_ | refine S34 ?_ | refine S35 ?_ | refine S36 ?_ | refine S37 ?_ | refine S38 ?_ | refine S39 ?_ | refine S40 ?_ | refine S41 ?_ | refine S42 ?_ | refine S43 ?_ | refine S44 ?_ | refine S45 ?_ | refine S46 ?_ | refine S47 ?_ | refine S48 ?_ | refine S49 ?_ | refine S50 ?_ | refine S51 ?_ | refine S52 ?_ | refine S53 ?_ | refine S54 ?_ | refine S55 ?_ | refine S56 ?_ | refine S57 ?_ | refine S58 ?_ | refine S59 ?_ | refine S60 ?_ | refine S61 ?_ | refine S62 ?_ | refine S63 ?_ | refine S64 ?_ | refine S65 ?_ | refine S66 ?_ | refine S67 ?_ | refine S68 ?_ | refine S69 ?_ | refine S70 ?_ | refine S71 ?_ | refine S72 ?_ | refine S73 ?_ | refine S74 ?_ | refine S75 ?_ | refine S76 ?_ | refine S77 ?_ | refine S78 ?_ | refine S79 ?_ | refine S80 ?_ | refine S81 ?_ | refine S82 ?_ | refine S83 ?_ | refine S84 ?_ | refine S85 ?_ | refine S86 ?_)
  exact ⟨.inr rfl, .cl rfl⟩
end Go.Proofs.Ytehilackpaejnaa
