/- Contracts of functions of package slices at lists of ints. No condition of its own. -/
import Derived.Test.YthacglggkgmbhaaGGroupFactorsBC
import Derived.Test.YthacglggkgmbhaaGGroupFactorsBD
import Derived.Test.YthacglggkgmbhaaGGroupFactorsBE
import Derived.Test.YthacglggkgmbhaaGGroupFactorsAB
set_option linter.unusedVariables false
set_option linter.unusedSimpArgs false
namespace Go.Proofs.Ythacglggkgmbhaa
open Go.RowKit

theorem take_eq_succ {xs ys : List Int} {k : Nat} (h1 : k < xs.length) (h2 : k < ys.length) (h : xs.take k = ys.take k) (he : xs.getD k 0 = ys.getD k 0) : xs.take (k + 1) = ys.take (k + 1) := by
  rw [List.take_succ_eq_append_getElem h1, List.take_succ_eq_append_getElem h2, h, ← getD_lt 0 h1, ← getD_lt 0 h2, he]
set_option maxHeartbeats 1000000 in
set_option maxRecDepth 100000 in
theorem equal_s (xs ys : List Int) : SC Try.prog 11 [pli xs, pli ys] (.sc (.bool (decide (xs = ys)))) := by
  refine SC.len (callable Try.func11 rfl rfl) (fun hlen => ?_)
  have hx : xs.length ≤ 9223372036854775807 := hlen (pli xs) (by simp)
  clear hlen
  refine SC.go {} tok mixed Try.func11 rfl rfl Try.ntmps11 rfl rfl (by kernel_rfl) ?_
  first | simp only [updS] | simp only [updL, Nat.reduceAdd]
  by_cases hl : xs.length = ys.length
  · repeat (first | refine S0 ?_ | refine S1 ?_ | refine S2 ?_ | refine S3 ?_ | refine S4 ?_ | refine S5 ?_ | refine S6 ?_ | refine S7 ?_ | refine S8 ?_ | refine S9 ?_ | refine S10 ?_ | refine S11 ?_ | refine S12 ?_ | refine S13 ?_ | refine S15 ?_ | refine S16 ?_ | refine S17 ?_ ?_ | refine S19 ?_ | refine S20 ?_ | refine S21 ?_ | refine S22 ?_ | refine S23 ?_ | refine S25 ?_ | refine S26 ?_ | refine S29 ?_ | refine S49 ?_ | refine S57 ?_ | refine S58 ?_ | refine S64 ?_)
    refine CW.loopS (fun k : Nat => k ≤ xs.length ∧ xs.take k = ys.take k) (fun k => [(0, pli xs), (1, pli ys), (12, pint xs.length), (13, pint k)]) (fun _ _ => True) (fun k => xs.length - k) 0 ⟨⟨by omega, rfl⟩, SLx, trivial⟩ ?_
    intro k t h ⟨hk, hg⟩ _
    first | simp only [updS] | simp only [updL, Nat.reduceAdd]
    by_cases hk2 : k < xs.length
    · by_cases he : xs.getD k 0 = ys.getD k 0
      · repeat (first | refine S0 ?_ | refine S1 ?_ | refine S2 ?_ | refine S3 ?_ | refine S4 ?_ | refine S5 ?_ | refine S6 ?_ | refine S7 ?_ | refine S8 ?_ | refine S9 ?_ | refine S10 ?_ | refine S11 ?_ | refine S12 ?_ | refine S13 ?_ | refine S15 ?_ | refine S16 ?_ | refine S17 ?_ ?_ | refine S19 ?_ | refine S20 ?_ | refine S21 ?_ | refine S22 ?_ | refine S23 ?_ | refine S25 ?_ | refine S26 ?_ | refine S29 ?_ | refine S49 ?_ | refine S57 ?_ | refine S58 ?_ | refine S64 ?_)
        exact ⟨k + 1, ⟨by omega, take_eq_succ hk2 (by omega) hg he⟩, SLx, trivial, by omega⟩
      · repeat (first | refine S0 ?_ | refine S1 ?_ | refine S2 ?_ | refine S3 ?_ | refine S4 ?_ | refine S5 ?_ | refine S6 ?_ | refine S7 ?_ | refine S8 ?_ | refine S9 ?_ | refine S10 ?_ | refine S11 ?_ | refine S12 ?_ | refine S13 ?_ | refine S15 ?_ | refine S16 ?_ | refine S17 ?_ ?_ | refine S19 ?_ | refine S20 ?_ | refine S21 ?_ | refine S22 ?_ | refine S23 ?_ | refine S25 ?_ | refine S26 ?_ | refine S29 ?_ | refine S49 ?_ | refine S57 ?_ | refine S58 ?_ | refine S64 ?_)
        refine ⟨.inr rfl, ?_⟩
        rw [show decide (xs = ys) = false from decide_eq_false (fun e => he (by rw [e]))]
        exact .cl rfl
    · repeat (first | refine S0 ?_ | refine S1 ?_ | refine S2 ?_ | refine S3 ?_ | refine S4 ?_ | refine S5 ?_ | refine S6 ?_ | refine S7 ?_ | refine S8 ?_ | refine S9 ?_ | refine S10 ?_ | refine S11 ?_ | refine S12 ?_ | refine S13 ?_ | refine S15 ?_ | refine S16 ?_ | refine S17 ?_ ?_ | refine S19 ?_ | refine S20 ?_ | refine S21 ?_ | refine S22 ?_ | refine S23 ?_ | refine S25 ?_ | refine S26 ?_ | refine S29 ?_ | refine S49 ?_ | refine S57 ?_ | refine S58 ?_ | refine S64 ?_)
      refine ⟨.inr rfl, ?_⟩
      have e : xs = ys := by rw [List.take_of_length_le (by omega), List.take_of_length_le (by omega)] at hg; exact hg
      rw [show decide (xs = ys) = true from decide_eq_true e]
      exact .cl rfl
  · repeat (first | refine S0 ?_ | refine S1 ?_ | refine S2 ?_ | refine S3 ?_ | refine S4 ?_ | refine S5 ?_ | refine S6 ?_ | refine S7 ?_ | refine S8 ?_ | refine S9 ?_ | refine S10 ?_ | refine S11 ?_ | refine S12 ?_ | refine S13 ?_ | refine S15 ?_ | refine S16 ?_ | refine S17 ?_ ?_ | refine S19 ?_ | refine S20 ?_ | refine S21 ?_ | refine S22 ?_ | refine S23 ?_ | refine S25 ?_ | refine S26 ?_ | refine S29 ?_ | refine S49 ?_ | refine S57 ?_ | refine S58 ?_ | refine S64 ?_)
    refine ⟨.inr rfl, ?_⟩
    rw [show decide (xs = ys) = false from decide_eq_false (fun e => hl (by rw [e]))]
    exact .cl rfl
end Go.Proofs.Ythacglggkgmbhaa

/- Lists made entry by entry; permutations turned round. No condition of its own. -/
set_option linter.unusedVariables false
set_option linter.unusedSimpArgs false
namespace Go.Proofs.Ythacglggkgmbhaa
open Go.RowKit

theorem vs_of {vs : Array Value} {us : List Value} (hl : vs.size = us.length) (h : ∀ i, i < us.length → vs.getD i undef = us.getD i undef) : vs = us.toArray := by
  apply Array.ext
  · simpa using hl
  · intro i h3 h4
    have := h i (by simpa using h4)
    simp at h4
    simpa [Array.getD, h3, List.getD, h4] using this
/-- an elder contract that takes one list -/
theorem SC.ofI {P : Program} {f : FuncId} {xs : List Int} {r : PV} (hb : ∀ x ∈ xs, in64 x) (hc : Callable P f) (h : ∀ (Z : Nat → Prop) (w : World) A cap, IsInts w A cap xs → Calls P f #[.slice A xs.length cap] w fun e w' => ∃ u, e = .returned u ∧ V (fun _ => none) Z w' r u ∧ Below w.heap.size w w') : SC P f [pli xs] r := by
  refine ⟨hc, fun Z w vs hz hl hv => ?_⟩
  obtain ⟨A, cap, e0, hI⟩ := V.isInts (hv 0 (by simp)) hb
  obtain rfl : vs = [Value.slice A xs.length cap].toArray := vs_of (by simpa using hl) (fun i hi => by
    match i, hi with
    | 0, _ => simpa using e0
    | i + 1, h => simp at h)
  exact h Z w A cap hI
/-- out[i] = F i for all i below k, the rest 0 -/
def fillT (n k : Nat) (F : Nat → Int) : List Int := (List.range n).map fun i => if i < k then F i else 0
theorem fillT_len (n k : Nat) (F : Nat → Int) : (fillT n k F).length = n := by simp [fillT]
theorem fillT_zero (n : Nat) (F : Nat → Int) : fillT n 0 F = List.replicate n 0 := by
  apply List.ext_getElem
  · simp [fillT]
  · intro i h1 h2; simp [fillT]
theorem fillT_set {n k : Nat} {F : Nat → Int} (hk : k < n) : (fillT n k F).set k (F k) = fillT n (k + 1) F := by
  apply List.ext_getElem
  · simp [fillT]
  · intro i h1 h2
    simp only [fillT, List.length_map, List.length_range] at h2
    rw [List.getElem_set]
    by_cases e : k = i
    · subst e; simp [fillT]
    · rw [if_neg e]
      simp only [fillT, List.getElem_map, List.getElem_range]
      by_cases h3 : i < k
      · rw [if_pos h3, if_pos (by omega)]
      · rw [if_neg h3, if_neg (by omega)]
theorem fillT_all (n : Nat) (F : Nat → Int) : fillT n n F = (List.range n).map F := by
  unfold fillT
  exact List.map_congr_left (fun i hi => by rw [if_pos (by simpa using hi)])
theorem fillT_tab (n : Nat) (F : Nat → Nat) : fillT n n (fun i => (F i : Int)) = tabN n F := fillT_all n _

theorem Fz.nil {h : HP} : Fz h (.lst true 0 0 []) (pli []) := Fz.nrm (p := .lst true 0 0 []) rfl
theorem equal_refl (xs : List Int) : SC Try.prog 11 [pli xs, pli xs] (.sc (.bool true)) := by
  have := equal_s xs xs
  rwa [decide_eq_true rfl] at this
set_option maxHeartbeats 1000000 in
set_option maxRecDepth 100000 in
theorem pback_s {n : Nat} {F G : Nat → Nat} {zs : List Int} (hz : zs = tabN n F) (hF : ∀ i, i < n → F i < n) (hG : ∀ i, i < n → G i < n ∧ F (G i) = i ∧ G (F i) = i) (hn : n ≤ 9) : SC Try.prog 48 [pli zs] (pli (tabN n G)) := by
  have hl1 : zs.length = n := by rw [hz]; simp
  refine SC.go {} tok mixed Try.func48 rfl rfl Try.ntmps48 rfl rfl (by kernel_rfl) ?_
  first | simp only [updS] | simp only [updL, Nat.reduceAdd]
  repeat (first | refine S0 ?_ | refine S1 ?_ | refine S2 ?_ | refine S4 ?_ | refine S5 ?_ | refine S6 ?_ | refine S7 ?_ | refine S8 ?_ | refine S10 ?_ | refine S11 ?_ | refine S13 ?_ | refine S15 ?_ | refine S16 ?_ | refine S19 ?_ | refine S20 ?_ | refine S21 ?_ | refine S22 ?_ | refine S23 ?_ | refine S24 ?_ | refine S25 ?_ | refine S26 ?_ | refine S27 ?_ | refine S65 ?_ | refine S71 ?_)
  rw [hl1]
  refine CW.loopS (fun i : Nat × List Int => i.1 ≤ n ∧ i.2.length = n ∧ ∀ j, j < i.1 → i.2.getD (F j) 0 = (j : Int)) (fun i => [(3, .ref 0 0 1 n), (9, pli zs), (10, pint n), (11, pint i.1)]) (fun i h => h.blk 0 = some (ints i.2)) (fun i => n - i.1) (0, List.replicate n 0) ⟨⟨by omega, by simp, fun j hj => by simp at hj⟩, SLx, HBx⟩ ?_
  rintro ⟨k, L⟩ t h ⟨hk, hL, hI⟩ B
  simp only at hk hL hI B
  first | simp only [updS] | simp only [updL, Nat.reduceAdd]
  by_cases hk2 : k < n
  · have e1 : zs.getD k 0 = (F k : Int) := by rw [hz]; exact tabN_get hk2
    have e2 := hF k hk2
    repeat (first | refine S0 ?_ | refine S1 ?_ | refine S2 ?_ | refine S4 ?_ | refine S5 ?_ | refine S6 ?_ | refine S7 ?_ | refine S8 ?_ | refine S10 ?_ | refine S11 ?_ | refine S13 ?_ | refine S15 ?_ | refine S16 ?_ | refine S19 ?_ | refine S20 ?_ | refine S21 ?_ | refine S22 ?_ | refine S23 ?_ | refine S24 ?_ | refine S25 ?_ | refine S26 ?_ | refine S27 ?_ | refine S65 ?_ | refine S71 ?_)
    refine ⟨(k + 1, L.set (zs.getD k 0).toNat k), ⟨by simp only; omega, by simp [hL], fun j hj => ?_⟩, SLx, (by (try dsimp only); repeat' (first | exact HBx | exact SBx | refine And.intro ?_ ?_)), by simp only; omega⟩
    simp only at hj ⊢
    rw [e1, Int.toNat_natCast]
    by_cases e : j = k
    · subst e; simp [List.getD, hL, e2]
    · have hne : F k ≠ F j := fun e3 => e (by rw [← (hG j (by omega)).2.2, ← (hG k hk2).2.2, e3])
      have := hI j (by omega)
      simpa [List.getD, List.getElem?_set_ne hne] using this
  · obtain rfl : k = n := by omega
    have hfin : L = tabN k G := by
      apply List.ext_getElem
      · simp [hL]
      · intro j h1 h2
        have h3 : j < k := by omega
        have := hI (G j) (hG j h3).1
        rw [(hG j h3).2.1, getD_lt 0 h1] at this
        rw [this]; simp [tabN]
    repeat (first | refine S0 ?_ | refine S1 ?_ | refine S2 ?_ | refine S4 ?_ | refine S5 ?_ | refine S6 ?_ | refine S7 ?_ | refine S8 ?_ | refine S10 ?_ | refine S11 ?_ | refine S13 ?_ | refine S15 ?_ | refine S16 ?_ | refine S19 ?_ | refine S20 ?_ | refine S21 ?_ | refine S22 ?_ | refine S23 ?_ | refine S24 ?_ | refine S25 ?_ | refine S26 ?_ | refine S27 ?_ | refine S65 ?_ | refine S71 ?_)
    exact ⟨.inr rfl, Fz.refI HBx hL.symm hfin⟩
end Go.Proofs.Ythacglggkgmbhaa
