/- Contracts by lists of functions on permutations. No condition of its own. -/
import Derived.Test.YthacglggkgmbhaaGGroupOrbitsAZ
import Derived.Test.YthacglggkgmbhaaGGroupOrbitsBE
import Derived.Test.YthacglggkgmbhaaGGroupOrbitsBF
import Derived.Test.YthacglggkgmbhaaGGroupOrbitsAU
import Derived.Test.YthacglggkgmbhaaGGroupOrbitsAQ
import Derived.Test.YthacglggkgmbhaaGGroupOrbitsAW
set_option linter.unusedVariables false
set_option linter.unusedSimpArgs false
namespace Go.Proofs.Ythacglggkgmbhaa
open Go.RowKit

theorem check_s {xs : List Int} (hb : ∀ x ∈ xs, in64 x) : SC Try.prog 32 [pli xs] (pint (permFault xs)) :=
  SC.ofI hb (callable Try.func32 rfl rfl) fun Z w A cap h => (check_c A cap xs w h).mono fun e w' ⟨h1, h2⟩ => ⟨_, h1, .sc _, by subst h2; exact Below.refl _ _⟩
theorem fault_s {xs : List Int} (hb : ∀ x ∈ xs, in64 x) : SC Try.prog 31 [pli xs] (pint (permFault xs)) :=
  SC.ofI hb (callable Try.func31 rfl rfl) fun Z w A cap h => (fault_c A cap xs w h).mono fun e w' ⟨h1, h2⟩ => ⟨_, h1, .sc _, h2⟩
set_option maxHeartbeats 1000000 in
set_option maxRecDepth 100000 in
theorem identity_s (n : Nat) (hn : n ≤ 9) : SC Try.prog 42 [pint n] (pli (tabN n id)) := by
  refine SC.go {} tok mixed Try.func42 rfl rfl Try.ntmps42 rfl rfl (by kernel_rfl) ?_
  first | simp only [updS] | simp only [updL, Nat.reduceAdd]
  repeat (first | refine S0 ?_ | refine S1 ?_ | refine S2 ?_ | refine S4 ?_ | refine S5 ?_ | refine S6 ?_ | refine S7 ?_ | refine S8 ?_ | refine S10 ?_ | refine S11 ?_ | refine S13 ?_ | refine S15 ?_ | refine S16 ?_ | refine S19 ?_ | refine S20 ?_ | refine S21 ?_ | refine S22 ?_ | refine S23 ?_ | refine S24 ?_ | refine S25 ?_ | refine S26 ?_ | refine S27 ?_ | refine S65 ?_ | refine S71 ?_)
  refine CW.loopS (fun k : Nat => k ≤ n) (fun k => [(3, .ref 0 0 1 n), (8, pint n), (9, pint k)]) (fun k h => h.blk 0 = some (ints (fillT n k (fun i => ((id i : Nat) : Int))))) (fun k => n - k) 0 ⟨by omega, SLx, by rw [fillT_zero]; exact HBx⟩ ?_
  rintro k t h hk B
  first | simp only [updS] | simp only [updL, Nat.reduceAdd]
  have hl := fillT_len n k (fun i => ((id i : Nat) : Int))
  by_cases hk2 : k < n
  · have hs : (fillT n k (fun i => ((id i : Nat) : Int))).set k (k : Int) = fillT n (k + 1) (fun i => ((id i : Nat) : Int)) := fillT_set hk2
    repeat (first | refine S0 ?_ | refine S1 ?_ | refine S2 ?_ | refine S4 ?_ | refine S5 ?_ | refine S6 ?_ | refine S7 ?_ | refine S8 ?_ | refine S10 ?_ | refine S11 ?_ | refine S13 ?_ | refine S15 ?_ | refine S16 ?_ | refine S19 ?_ | refine S20 ?_ | refine S21 ?_ | refine S22 ?_ | refine S23 ?_ | refine S24 ?_ | refine S25 ?_ | refine S26 ?_ | refine S27 ?_ | refine S65 ?_ | refine S71 ?_)
    rw [hs]
    exact ⟨k + 1, by omega, SLx, (by (try dsimp only); repeat' (first | exact HBx | exact SBx | refine And.intro ?_ ?_)), by omega⟩
  · obtain rfl : k = n := by omega
    rw [fillT_tab] at B
    repeat (first | refine S0 ?_ | refine S1 ?_ | refine S2 ?_ | refine S4 ?_ | refine S5 ?_ | refine S6 ?_ | refine S7 ?_ | refine S8 ?_ | refine S10 ?_ | refine S11 ?_ | refine S13 ?_ | refine S15 ?_ | refine S16 ?_ | refine S19 ?_ | refine S20 ?_ | refine S21 ?_ | refine S22 ?_ | refine S23 ?_ | refine S24 ?_ | refine S25 ?_ | refine S26 ?_ | refine S27 ?_ | refine S65 ?_ | refine S71 ?_)
    exact ⟨.inr rfl, Fz.refI HBx (by first | (simp; done) | (simp; omega)) (by first | rfl | (simp; done))⟩
set_option maxHeartbeats 1000000 in
set_option maxRecDepth 100000 in
theorem row_s (n : Nat) (hn : n ≤ 9) : SC Try.prog 25 [pint n] (pli (tabN n id)) := by
  refine SC.go {} tok mixed Try.func25 rfl rfl Try.ntmps25 rfl rfl (by kernel_rfl) ?_
  first | simp only [updS] | simp only [updL, Nat.reduceAdd]
  repeat (first | refine S0 ?_ | refine S1 ?_ | refine S2 ?_ | refine S4 ?_ | refine S5 ?_ | refine S6 ?_ | refine S7 ?_ | refine S8 ?_ | refine S10 ?_ | refine S11 ?_ | refine S13 ?_ | refine S15 ?_ | refine S16 ?_ | refine S19 ?_ | refine S20 ?_ | refine S21 ?_ | refine S22 ?_ | refine S23 ?_ | refine S24 ?_ | refine S25 ?_ | refine S26 ?_ | refine S27 ?_ | refine S65 ?_ | refine S71 ?_)
  refine CW.loopS (fun k : Nat => k ≤ n) (fun k => [(3, .ref 0 0 1 n), (8, pint n), (9, pint k)]) (fun k h => h.blk 0 = some (ints (fillT n k (fun i => ((id i : Nat) : Int))))) (fun k => n - k) 0 ⟨by omega, SLx, by rw [fillT_zero]; exact HBx⟩ ?_
  rintro k t h hk B
  first | simp only [updS] | simp only [updL, Nat.reduceAdd]
  have hl := fillT_len n k (fun i => ((id i : Nat) : Int))
  by_cases hk2 : k < n
  · have hs : (fillT n k (fun i => ((id i : Nat) : Int))).set k (k : Int) = fillT n (k + 1) (fun i => ((id i : Nat) : Int)) := fillT_set hk2
    repeat (first | refine S0 ?_ | refine S1 ?_ | refine S2 ?_ | refine S4 ?_ | refine S5 ?_ | refine S6 ?_ | refine S7 ?_ | refine S8 ?_ | refine S10 ?_ | refine S11 ?_ | refine S13 ?_ | refine S15 ?_ | refine S16 ?_ | refine S19 ?_ | refine S20 ?_ | refine S21 ?_ | refine S22 ?_ | refine S23 ?_ | refine S24 ?_ | refine S25 ?_ | refine S26 ?_ | refine S27 ?_ | refine S65 ?_ | refine S71 ?_)
    rw [hs]
    exact ⟨k + 1, by omega, SLx, (by (try dsimp only); repeat' (first | exact HBx | exact SBx | refine And.intro ?_ ?_)), by omega⟩
  · obtain rfl : k = n := by omega
    rw [fillT_tab] at B
    repeat (first | refine S0 ?_ | refine S1 ?_ | refine S2 ?_ | refine S4 ?_ | refine S5 ?_ | refine S6 ?_ | refine S7 ?_ | refine S8 ?_ | refine S10 ?_ | refine S11 ?_ | refine S13 ?_ | refine S15 ?_ | refine S16 ?_ | refine S19 ?_ | refine S20 ?_ | refine S21 ?_ | refine S22 ?_ | refine S23 ?_ | refine S24 ?_ | refine S25 ?_ | refine S26 ?_ | refine S27 ?_ | refine S65 ?_ | refine S71 ?_)
    exact ⟨.inr rfl, Fz.refI HBx (by first | (simp; done) | (simp; omega)) (by first | rfl | (simp; done))⟩
set_option maxHeartbeats 1000000 in
set_option maxRecDepth 100000 in
theorem then_s {n m : Nat} {F G : Nat → Nat} {zs ys : List Int} (hz : zs = tabN n F) (hy : ys = tabN m G) (hF : ∀ i, i < n → F i < m) (hn : n ≤ 9) (hm : m ≤ 9) : SC Try.prog 47 [pli zs, pli ys] (pli (tabN n (fun i => G (F i)))) := by
  have hl1 : zs.length = n := by rw [hz]; simp
  have hl2 : ys.length = m := by rw [hy]; simp
  refine SC.go {} tok mixed Try.func47 rfl rfl Try.ntmps47 rfl rfl (by kernel_rfl) ?_
  first | simp only [updS] | simp only [updL, Nat.reduceAdd]
  repeat (first | refine S0 ?_ | refine S1 ?_ | refine S2 ?_ | refine S4 ?_ | refine S5 ?_ | refine S6 ?_ | refine S7 ?_ | refine S8 ?_ | refine S10 ?_ | refine S11 ?_ | refine S13 ?_ | refine S15 ?_ | refine S16 ?_ | refine S19 ?_ | refine S20 ?_ | refine S21 ?_ | refine S22 ?_ | refine S23 ?_ | refine S24 ?_ | refine S25 ?_ | refine S26 ?_ | refine S27 ?_ | refine S65 ?_ | refine S71 ?_)
  rw [hl1]
  refine CW.loopS (fun k : Nat => k ≤ n) (fun k => [(5, .ref 0 0 1 n), (11, pli zs), (12, pint n), (13, pint k), (1, pli ys)]) (fun k h => h.blk 0 = some (ints (fillT n k (fun i => ((G (F i) : Nat) : Int))))) (fun k => n - k) 0 ⟨by omega, SLx, by rw [fillT_zero]; exact HBx⟩ ?_
  rintro k t h hk B
  first | simp only [updS] | simp only [updL, Nat.reduceAdd]
  have hl := fillT_len n k (fun i => ((G (F i) : Nat) : Int))
  by_cases hk2 : k < n
  · have e1 : zs.getD k 0 = (F k : Int) := by rw [hz]; exact tabN_get hk2
    have e2 := hF k hk2
    have hs : (fillT n k (fun i => ((G (F i) : Nat) : Int))).set k (ys.getD (zs.getD k 0).toNat 0) = fillT n (k + 1) (fun i => ((G (F i) : Nat) : Int)) := by rw [e1, Int.toNat_natCast, hy, tabN_get e2]; exact fillT_set hk2
    repeat (first | refine S0 ?_ | refine S1 ?_ | refine S2 ?_ | refine S4 ?_ | refine S5 ?_ | refine S6 ?_ | refine S7 ?_ | refine S8 ?_ | refine S10 ?_ | refine S11 ?_ | refine S13 ?_ | refine S15 ?_ | refine S16 ?_ | refine S19 ?_ | refine S20 ?_ | refine S21 ?_ | refine S22 ?_ | refine S23 ?_ | refine S24 ?_ | refine S25 ?_ | refine S26 ?_ | refine S27 ?_ | refine S65 ?_ | refine S71 ?_)
    rw [hs]
    exact ⟨k + 1, by omega, SLx, (by (try dsimp only); repeat' (first | exact HBx | exact SBx | refine And.intro ?_ ?_)), by omega⟩
  · obtain rfl : k = n := by omega
    rw [fillT_tab] at B
    repeat (first | refine S0 ?_ | refine S1 ?_ | refine S2 ?_ | refine S4 ?_ | refine S5 ?_ | refine S6 ?_ | refine S7 ?_ | refine S8 ?_ | refine S10 ?_ | refine S11 ?_ | refine S13 ?_ | refine S15 ?_ | refine S16 ?_ | refine S19 ?_ | refine S20 ?_ | refine S21 ?_ | refine S22 ?_ | refine S23 ?_ | refine S24 ?_ | refine S25 ?_ | refine S26 ?_ | refine S27 ?_ | refine S65 ?_ | refine S71 ?_)
    exact ⟨.inr rfl, Fz.refI HBx (by first | (simp; done) | (simp; omega)) (by first | rfl | (simp; done))⟩
set_option maxHeartbeats 1000000 in
set_option maxRecDepth 100000 in
theorem after_s {n m : Nat} {F G : Nat → Nat} {zs ys : List Int} (hz : zs = tabN n F) (hy : ys = tabN m G) (hF : ∀ i, i < n → F i < m) (hn : n ≤ 9) (hm : m ≤ 9) : SC Try.prog 27 [pli zs, pli ys] (pli (tabN n (fun i => G (F i)))) := by
  have hl1 : zs.length = n := by rw [hz]; simp
  have hl2 : ys.length = m := by rw [hy]; simp
  refine SC.go {} tok mixed Try.func27 rfl rfl Try.ntmps27 rfl rfl (by kernel_rfl) ?_
  first | simp only [updS] | simp only [updL, Nat.reduceAdd]
  repeat (first | refine S0 ?_ | refine S1 ?_ | refine S2 ?_ | refine S4 ?_ | refine S5 ?_ | refine S6 ?_ | refine S7 ?_ | refine S8 ?_ | refine S10 ?_ | refine S11 ?_ | refine S13 ?_ | refine S15 ?_ | refine S16 ?_ | refine S19 ?_ | refine S20 ?_ | refine S21 ?_ | refine S22 ?_ | refine S23 ?_ | refine S24 ?_ | refine S25 ?_ | refine S26 ?_ | refine S27 ?_ | refine S65 ?_ | refine S71 ?_)
  rw [hl1]
  refine CW.loopS (fun k : Nat => k ≤ n) (fun k => [(5, .ref 0 0 1 n), (0, pli zs), (11, pint n), (12, pint k), (1, pli ys)]) (fun k h => h.blk 0 = some (ints (fillT n k (fun i => ((G (F i) : Nat) : Int))))) (fun k => n - k) 0 ⟨by omega, SLx, by rw [fillT_zero]; exact HBx⟩ ?_
  rintro k t h hk B
  first | simp only [updS] | simp only [updL, Nat.reduceAdd]
  have hl := fillT_len n k (fun i => ((G (F i) : Nat) : Int))
  by_cases hk2 : k < n
  · have e1 : zs.getD k 0 = (F k : Int) := by rw [hz]; exact tabN_get hk2
    have e2 := hF k hk2
    have hs : (fillT n k (fun i => ((G (F i) : Nat) : Int))).set k (ys.getD (zs.getD k 0).toNat 0) = fillT n (k + 1) (fun i => ((G (F i) : Nat) : Int)) := by rw [e1, Int.toNat_natCast, hy, tabN_get e2]; exact fillT_set hk2
    repeat (first | refine S0 ?_ | refine S1 ?_ | refine S2 ?_ | refine S4 ?_ | refine S5 ?_ | refine S6 ?_ | refine S7 ?_ | refine S8 ?_ | refine S10 ?_ | refine S11 ?_ | refine S13 ?_ | refine S15 ?_ | refine S16 ?_ | refine S19 ?_ | refine S20 ?_ | refine S21 ?_ | refine S22 ?_ | refine S23 ?_ | refine S24 ?_ | refine S25 ?_ | refine S26 ?_ | refine S27 ?_ | refine S65 ?_ | refine S71 ?_)
    rw [hs]
    exact ⟨k + 1, by omega, SLx, (by (try dsimp only); repeat' (first | exact HBx | exact SBx | refine And.intro ?_ ?_)), by omega⟩
  · obtain rfl : k = n := by omega
    rw [fillT_tab] at B
    repeat (first | refine S0 ?_ | refine S1 ?_ | refine S2 ?_ | refine S4 ?_ | refine S5 ?_ | refine S6 ?_ | refine S7 ?_ | refine S8 ?_ | refine S10 ?_ | refine S11 ?_ | refine S13 ?_ | refine S15 ?_ | refine S16 ?_ | refine S19 ?_ | refine S20 ?_ | refine S21 ?_ | refine S22 ?_ | refine S23 ?_ | refine S24 ?_ | refine S25 ?_ | refine S26 ?_ | refine S27 ?_ | refine S65 ?_ | refine S71 ?_)
    exact ⟨.inr rfl, Fz.refI HBx (by first | (simp; done) | (simp; omega)) (by first | rfl | (simp; done))⟩
theorem index_s {n : Nat} {F G : Nat → Nat} {zs : List Int} (hz : zs = tabN n F) (hF : ∀ i, i < n → F i < n) (hG : ∀ i, i < n → G i < n ∧ F (G i) = i ∧ G (F i) = i) (hn : n ≤ 9) {k : Nat} (hk : k < n) : SC Try.prog 29 [pli zs, pint k] (pint (G k)) := by
  have hmem : (k : Int) ∈ zs := by
    rw [hz]; unfold tabN
    exact List.mem_map.2 ⟨G k, by simpa using (hG k hk).1, by rw [(hG k hk).2.1]⟩
  have hb : ∀ x ∈ zs, in64 x := by
    rw [hz]; unfold tabN
    intro x hx
    obtain ⟨i, hi, rfl⟩ := List.mem_map.1 hx
    have := hF i (by simpa using hi)
    unfold in64; omega
  have hidx : zs.idxOf (k : Int) = G k := by
    have h1 := List.idxOf_lt_length_iff.2 hmem
    have h2 := List.getElem_idxOf h1
    have hlt : zs.idxOf (k : Int) < n := by rw [hz] at h1 ⊢; simpa using h1
    have h3 : zs.getD (zs.idxOf (k : Int)) 0 = (k : Int) := by rw [getD_lt 0 h1]; exact h2
    have h4 : zs.getD (zs.idxOf (k : Int)) 0 = (F (zs.idxOf (k : Int)) : Int) := by
      have h := tabN_get (F := F) hlt
      rw [← hz] at h
      exact h
    have h5 : F (zs.idxOf (k : Int)) = k := by omega
    rw [← (hG _ hlt).2.2, h5]
  refine ⟨callable Try.func29 rfl rfl, fun Z w vs hz hl hv => ?_⟩
  obtain ⟨A, cap, e0, hI⟩ := V.isInts (hv 0 (by simp)) hb
  have e1 := (hv 1 (by simp)).sc_inv
  obtain rfl : vs = [Value.slice A zs.length cap, .int .i64 k].toArray := vs_of (by simpa using hl) (fun i hi => by
    match i, hi with
    | 0, _ => simpa using e0
    | 1, _ => simpa using e1
    | i + 2, h => simp at h; omega)
  refine (index_c A cap zs k w hI hmem).mono fun e w' ⟨h1, h2⟩ => ⟨_, h1, ?_, by subst h2; exact Below.refl _ _⟩
  rw [hidx]; exact .sc _
set_option maxHeartbeats 1000000 in
set_option maxRecDepth 100000 in
theorem rback_s {n : Nat} {F G : Nat → Nat} {zs : List Int} (hz : zs = tabN n F) (hF : ∀ i, i < n → F i < n) (hG : ∀ i, i < n → G i < n ∧ F (G i) = i ∧ G (F i) = i) (hn : n ≤ 9) : SC Try.prog 26 [pli zs] (pli (tabN n G)) := by
  have hl1 : zs.length = n := by rw [hz]; simp
  refine SC.go {} tok mixed Try.func26 rfl rfl Try.ntmps26 rfl rfl (by kernel_rfl) ?_
  first | simp only [updS] | simp only [updL, Nat.reduceAdd]
  repeat (first | refine S0 ?_ | refine S1 ?_ | refine S2 ?_ | refine S4 ?_ | refine S5 ?_ | refine S6 ?_ | refine S7 ?_ | refine S8 ?_ | refine S10 ?_ | refine S11 ?_ | refine S13 ?_ | refine S15 ?_ | refine S16 ?_ | refine S19 ?_ | refine S20 ?_ | refine S21 ?_ | refine S22 ?_ | refine S23 ?_ | refine S24 ?_ | refine S25 ?_ | refine S26 ?_ | refine S27 ?_ | refine S65 ?_ | refine S71 ?_)
  rw [hl1]
  refine CW.loopS (fun k : Nat => k ≤ n) (fun k => [(3, .ref 0 0 1 n), (0, pli zs), (9, pint n), (10, pint k)]) (fun k h => h.blk 0 = some (ints (fillT n k (fun i => ((G i : Nat) : Int))))) (fun k => n - k) 0 ⟨by omega, SLx, by rw [fillT_zero]; exact HBx⟩ ?_
  rintro k t h hk B
  first | simp only [updS] | simp only [updL, Nat.reduceAdd]
  have hl := fillT_len n k (fun i => ((G i : Nat) : Int))
  by_cases hk2 : k < n
  · have hx := index_s hz hF hG hn hk2
    have hs : (fillT n k (fun i => ((G i : Nat) : Int))).set k ((G k : Int)) = fillT n (k + 1) (fun i => ((G i : Nat) : Int)) := by exact fillT_set hk2
    repeat (first | refine S0 ?_ | refine S1 ?_ | refine S2 ?_ | refine S4 ?_ | refine S5 ?_ | refine S6 ?_ | refine S7 ?_ | refine S8 ?_ | refine S10 ?_ | refine S11 ?_ | refine S13 ?_ | refine S15 ?_ | refine S16 ?_ | refine S19 ?_ | refine S20 ?_ | refine S21 ?_ | refine S22 ?_ | refine S23 ?_ | refine S24 ?_ | refine S25 ?_ | refine S26 ?_ | refine S27 ?_ | refine S65 ?_ | refine S71 ?_)
    refine Scall (args := [pli zs, pint k]) hx ?_
    repeat (first | refine S0 ?_ | refine S1 ?_ | refine S2 ?_ | refine S4 ?_ | refine S5 ?_ | refine S6 ?_ | refine S7 ?_ | refine S8 ?_ | refine S10 ?_ | refine S11 ?_ | refine S13 ?_ | refine S15 ?_ | refine S16 ?_ | refine S19 ?_ | refine S20 ?_ | refine S21 ?_ | refine S22 ?_ | refine S23 ?_ | refine S24 ?_ | refine S25 ?_ | refine S26 ?_ | refine S27 ?_ | refine S65 ?_ | refine S71 ?_)
    rw [hs]
    exact ⟨k + 1, by omega, SLx, (by (try dsimp only); repeat' (first | exact HBx | exact SBx | refine And.intro ?_ ?_)), by omega⟩
  · obtain rfl : k = n := by omega
    rw [fillT_tab] at B
    repeat (first | refine S0 ?_ | refine S1 ?_ | refine S2 ?_ | refine S4 ?_ | refine S5 ?_ | refine S6 ?_ | refine S7 ?_ | refine S8 ?_ | refine S10 ?_ | refine S11 ?_ | refine S13 ?_ | refine S15 ?_ | refine S16 ?_ | refine S19 ?_ | refine S20 ?_ | refine S21 ?_ | refine S22 ?_ | refine S23 ?_ | refine S24 ?_ | refine S25 ?_ | refine S26 ?_ | refine S27 ?_ | refine S65 ?_ | refine S71 ?_)
    exact ⟨.inr rfl, Fz.refI HBx (by first | (simp; done) | (simp; omega)) (by first | rfl | (simp; done))⟩
end Go.Proofs.Ythacglggkgmbhaa

/- Regions that draw their order, with a call in the middle that turns the heap. Nothing of the program is here. -/
set_option linter.unusedVariables false
set_option linter.unusedSimpArgs false
namespace Go.Proofs.Ythacglggkgmbhaa
open Go.RowKit
variable {P : Program} {E : PV → Value → Prop} {w0 : World} {Z0 : Nat → Prop} {n : Nat} {cl : Oper → Cls} {ops : Array Oper} {Q : Exit → Act → World → Prop}
/-- an operation in the middle: all ahead of it are bound ahead of it, all behind it behind it -/
def midOk (ops : Array Oper) (m : Nat) : Bool := Nat.blt m ops.size && (List.range m).all (fun j => anc ops ops.size m j) && (List.range ops.size).all (fun i => Nat.ble i m || anc ops ops.size i m)
/-- all memory of one's own is written no more -/
def HP.emp (h : HP) : HP := ⟨fun _ => none, h.next, fun _ => none, h.win⟩
end Go.Proofs.Ythacglggkgmbhaa
