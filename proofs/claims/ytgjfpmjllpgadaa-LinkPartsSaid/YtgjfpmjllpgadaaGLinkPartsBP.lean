/- The plain law of TopCrossings: permutations of words, their signs. Nothing of the program is here. -/
import Derived.Test.YtgjfpmjllpgadaaGLinkPartsBL
import Derived.Test.YtgjfpmjllpgadaaGLinkPartsBF
import Derived.Test.YtgjfpmjllpgadaaGLinkPartsAU
import Derived.Test.YtgjfpmjllpgadaaGLinkPartsAW
set_option linter.unusedVariables false
set_option linter.unusedSimpArgs false
namespace Go.Proofs.Ytgjfpmjllpgadaa

theorem Wd.isP {n : Nat} {w : List Int} (h : Wd n w) : ∀ k, k ≤ w.length → IsP (eAt w k) n := fun k hk =>
  ⟨fun i hi => h.e_lt k hk i hi, fun i j _ _ e => by
    have := congrArg (fAt w k) e
    rwa [h.fe k hk, h.fe k hk] at this⟩
end Go.Proofs.Ytgjfpmjllpgadaa

/- slices.IndexFunc, DeleteFunc, Clip, EqualFunc at lists of lists. No condition of its own. -/
set_option linter.unusedVariables false
set_option linter.unusedSimpArgs false
namespace Go.Proofs.Ytgjfpmjllpgadaa
open Go.RowKit

section
variable {F : List Int → PV} {b : Bool} {ls : List (List Int)} {f : FuncId} {cap : List PV}
end
set_option maxHeartbeats 1000000 in
set_option maxRecDepth 100000 in
theorem clipL_s {b : Bool} {n : Nat} {cs : List PV} (hl : cs.length = n) (hc : PV.cl.clL cs = true) : SC Try.prog 101 [.lst b 1 n cs] (.lst true 1 n cs) := by
  refine SC.go {} tok mixed Try.func101 rfl rfl Try.ntmps101 rfl rfl (by kernel_rfl) ?_
  first | simp only [updS] | simp only [updL, Nat.reduceAdd]
  repeat (first | refine S0 ?_ | refine S1 ?_ | refine S2 ?_ | refine S4 ?_ | refine S5 ?_ | refine S6 ?_ | refine S7 ?_ | refine S8 ?_ | refine S9 ?_ | refine S10 ?_ | refine S11 ?_ | refine S12 ?_ | refine S13 ?_ | refine S15 ?_ | refine S16 ?_ | refine S19 ?_ | refine S20 ?_ | refine S21 ?_ | refine S22 ?_ | refine S23 ?_ | refine S24 ?_ | refine S25 ?_ | refine S26 ?_ | refine S27 ?_ | refine S28 ?_ | refine S29 ?_ | refine S36 ?_ | refine S65 ?_)
  refine AW.clipG EVx rfl EVx EVx hl ?_
  repeat (first | refine S0 ?_ | refine S1 ?_ | refine S2 ?_ | refine S4 ?_ | refine S5 ?_ | refine S6 ?_ | refine S7 ?_ | refine S8 ?_ | refine S9 ?_ | refine S10 ?_ | refine S11 ?_ | refine S12 ?_ | refine S13 ?_ | refine S15 ?_ | refine S16 ?_ | refine S19 ?_ | refine S20 ?_ | refine S21 ?_ | refine S22 ?_ | refine S23 ?_ | refine S24 ?_ | refine S25 ?_ | refine S26 ?_ | refine S27 ?_ | refine S28 ?_ | refine S29 ?_ | refine S36 ?_ | refine S65 ?_)
  exact ⟨.inr rfl, .cl (show (PV.lst true 1 n cs).cl = true from hc)⟩
theorem clL_plt (ls : List (List Int)) : PV.cl.clL (ls.map plt) = true := clL_mem.2 (fun c hc => by obtain ⟨x, _, rfl⟩ := List.mem_map.1 hc; exact plt_cl x)
end Go.Proofs.Ytgjfpmjllpgadaa
