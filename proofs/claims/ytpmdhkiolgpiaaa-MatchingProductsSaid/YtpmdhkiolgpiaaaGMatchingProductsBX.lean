/- temperleylieb.Product, Closure. No condition of its own. -/
import Derived.Test.YtpmdhkiolgpiaaaGMatchingProductsBS
import Derived.Test.YtpmdhkiolgpiaaaGMatchingProductsBW
import Derived.Test.YtpmdhkiolgpiaaaGMatchingProductsAC
import Derived.Test.YtpmdhkiolgpiaaaGMatchingProductsBM
set_option linter.unusedVariables false
set_option linter.unusedSimpArgs false
namespace Go.Proofs.Ytpmdhkiolgpiaaa
open Go.RowKit

set_option maxHeartbeats 8000000 in
set_option maxRecDepth 100000 in
theorem product_bad {n : Int} {a b : List Int} (h : matF n a ≠ 0 ∨ matF n b ≠ 0) :
    SC Try.prog 5 [pint n, pli a, pli b] (.tup [.lst true 0 0 [], pint 0, pint (if matF n a ≠ 0 then matF n a else matF n b)]) := by
  have ka := tcheck_s n a
  have kb := tcheck_s n b
  refine SC.go {} tok mixed Try.func5 rfl rfl Try.ntmps5 rfl rfl (by kernel_rfl) ?_
  first | simp only [updS] | simp only [updL, Nat.reduceAdd]
  repeat (first | refine S0 ?_ | refine S1 ?_ | refine S2 ?_ | refine S4 ?_ | refine S5 ?_ | refine S6 ?_ | refine S7 ?_ | refine S8 ?_ | refine S9 ?_ | refine S10 ?_ | refine S11 ?_ | refine S12 ?_ | refine S13 ?_ | refine S15 ?_ | refine S16 ?_ | refine S19 ?_ | refine S20 ?_ | refine S21 ?_ | refine S22 ?_ | refine S23 ?_ | refine S25 ?_ | refine S26 ?_ | refine S29 ?_ | refine S34 ?_ | refine S49 ?_)
  refine CW.loopS (fun k : Nat => k ≤ 1 ∧ (1 ≤ k → matF n a = 0)) (fun k => [(0, pint n), (1, pli a), (2, pli b), (16, .lst true 1 2 [pli a, pli b]), (17, pint 2), (18, pint k)]) (fun _ _ => True) (fun k => 2 - k) 0 ⟨⟨by omega, by omega⟩, SLx, trivial⟩ ?_
  rintro k t hp ⟨hk, hk0⟩ _
  first | simp only [updS] | simp only [updL, Nat.reduceAdd]
  rcases (show k = 0 ∨ k = 1 by omega) with rfl | rfl
  · repeat (first | refine S0 ?_ | refine S1 ?_ | refine S2 ?_ | refine S4 ?_ | refine S5 ?_ | refine S6 ?_ | refine S7 ?_ | refine S8 ?_ | refine S9 ?_ | refine S10 ?_ | refine S11 ?_ | refine S12 ?_ | refine S13 ?_ | refine S15 ?_ | refine S16 ?_ | refine S19 ?_ | refine S20 ?_ | refine S21 ?_ | refine S22 ?_ | refine S23 ?_ | refine S25 ?_ | refine S26 ?_ | refine S29 ?_ | refine S34 ?_ | refine S49 ?_)
    refine Scall (args := [pint n, pli a]) ka ?_
    by_cases c1 : matF n a = 0
    · rw [c1]
      repeat (first | refine S0 ?_ | refine S1 ?_ | refine S2 ?_ | refine S4 ?_ | refine S5 ?_ | refine S6 ?_ | refine S7 ?_ | refine S8 ?_ | refine S9 ?_ | refine S10 ?_ | refine S11 ?_ | refine S12 ?_ | refine S13 ?_ | refine S15 ?_ | refine S16 ?_ | refine S19 ?_ | refine S20 ?_ | refine S21 ?_ | refine S22 ?_ | refine S23 ?_ | refine S25 ?_ | refine S26 ?_ | refine S29 ?_ | refine S34 ?_ | refine S49 ?_)
      exact ⟨1, ⟨by omega, fun _ => rfl⟩, SLx, trivial, by omega⟩
    · rw [if_pos c1]
      clear h hk0
      generalize matF n a = y at *
      repeat (first | refine S0 ?_ | refine S1 ?_ | refine S2 ?_ | refine S4 ?_ | refine S5 ?_ | refine S6 ?_ | refine S7 ?_ | refine S8 ?_ | refine S9 ?_ | refine S10 ?_ | refine S11 ?_ | refine S12 ?_ | refine S13 ?_ | refine S15 ?_ | refine S16 ?_ | refine S19 ?_ | refine S20 ?_ | refine S21 ?_ | refine S22 ?_ | refine S23 ?_ | refine S25 ?_ | refine S26 ?_ | refine S29 ?_ | refine S34 ?_ | refine S49 ?_)
      exact ⟨.inr rfl, .cl rfl⟩
  · have c0 := hk0 (Nat.le_refl _)
    have c1 : matF n b ≠ 0 := h.resolve_left (fun h => h c0)
    rw [if_neg (fun h => h c0)]
    repeat (first | refine S0 ?_ | refine S1 ?_ | refine S2 ?_ | refine S4 ?_ | refine S5 ?_ | refine S6 ?_ | refine S7 ?_ | refine S8 ?_ | refine S9 ?_ | refine S10 ?_ | refine S11 ?_ | refine S12 ?_ | refine S13 ?_ | refine S15 ?_ | refine S16 ?_ | refine S19 ?_ | refine S20 ?_ | refine S21 ?_ | refine S22 ?_ | refine S23 ?_ | refine S25 ?_ | refine S26 ?_ | refine S29 ?_ | refine S34 ?_ | refine S49 ?_)
    refine Scall (args := [pint n, pli b]) kb ?_
    clear h hk0
    generalize matF n b = y at *
    repeat (first | refine S0 ?_ | refine S1 ?_ | refine S2 ?_ | refine S4 ?_ | refine S5 ?_ | refine S6 ?_ | refine S7 ?_ | refine S8 ?_ | refine S9 ?_ | refine S10 ?_ | refine S11 ?_ | refine S12 ?_ | refine S13 ?_ | refine S15 ?_ | refine S16 ?_ | refine S19 ?_ | refine S20 ?_ | refine S21 ?_ | refine S22 ?_ | refine S23 ?_ | refine S25 ?_ | refine S26 ?_ | refine S29 ?_ | refine S34 ?_ | refine S49 ?_)
    exact ⟨.inr rfl, .cl rfl⟩
set_option maxHeartbeats 8000000 in
set_option maxRecDepth 100000 in
theorem product_ok {n : Int} {a b o : List Int} {c : Int} (ha : matF n a = 0) (hb : matF n b = 0) (kput : SC Try.prog 21 [pint n, pli a, pli b] (.tup [pli o, pint c])) :
    SC Try.prog 5 [pint n, pli a, pli b] (.tup [pli o, pint c, pint 0]) := by
  have ka := tcheck_s n a
  have kb := tcheck_s n b
  rw [ha] at ka
  rw [hb] at kb
  refine SC.go {} tok mixed Try.func5 rfl rfl Try.ntmps5 rfl rfl (by kernel_rfl) ?_
  first | simp only [updS] | simp only [updL, Nat.reduceAdd]
  repeat (first | refine S0 ?_ | refine S1 ?_ | refine S2 ?_ | refine S4 ?_ | refine S5 ?_ | refine S6 ?_ | refine S7 ?_ | refine S8 ?_ | refine S9 ?_ | refine S10 ?_ | refine S11 ?_ | refine S12 ?_ | refine S13 ?_ | refine S15 ?_ | refine S16 ?_ | refine S19 ?_ | refine S20 ?_ | refine S21 ?_ | refine S22 ?_ | refine S23 ?_ | refine S25 ?_ | refine S26 ?_ | refine S29 ?_ | refine S34 ?_ | refine S49 ?_)
  refine CW.loopS (fun k : Nat => k ≤ 2) (fun k => [(0, pint n), (1, pli a), (2, pli b), (16, .lst true 1 2 [pli a, pli b]), (17, pint 2), (18, pint k)]) (fun _ _ => True) (fun k => 2 - k) 0 ⟨by omega, SLx, trivial⟩ ?_
  rintro k t hp hk _
  first | simp only [updS] | simp only [updL, Nat.reduceAdd]
  rcases (show k = 0 ∨ k = 1 ∨ k = 2 by omega) with rfl | rfl | rfl
  · repeat (first | refine S0 ?_ | refine S1 ?_ | refine S2 ?_ | refine S4 ?_ | refine S5 ?_ | refine S6 ?_ | refine S7 ?_ | refine S8 ?_ | refine S9 ?_ | refine S10 ?_ | refine S11 ?_ | refine S12 ?_ | refine S13 ?_ | refine S15 ?_ | refine S16 ?_ | refine S19 ?_ | refine S20 ?_ | refine S21 ?_ | refine S22 ?_ | refine S23 ?_ | refine S25 ?_ | refine S26 ?_ | refine S29 ?_ | refine S34 ?_ | refine S49 ?_)
    refine Scall (args := [pint n, pli a]) ka ?_
    repeat (first | refine S0 ?_ | refine S1 ?_ | refine S2 ?_ | refine S4 ?_ | refine S5 ?_ | refine S6 ?_ | refine S7 ?_ | refine S8 ?_ | refine S9 ?_ | refine S10 ?_ | refine S11 ?_ | refine S12 ?_ | refine S13 ?_ | refine S15 ?_ | refine S16 ?_ | refine S19 ?_ | refine S20 ?_ | refine S21 ?_ | refine S22 ?_ | refine S23 ?_ | refine S25 ?_ | refine S26 ?_ | refine S29 ?_ | refine S34 ?_ | refine S49 ?_)
    exact ⟨1, by omega, SLx, trivial, by omega⟩
  · repeat (first | refine S0 ?_ | refine S1 ?_ | refine S2 ?_ | refine S4 ?_ | refine S5 ?_ | refine S6 ?_ | refine S7 ?_ | refine S8 ?_ | refine S9 ?_ | refine S10 ?_ | refine S11 ?_ | refine S12 ?_ | refine S13 ?_ | refine S15 ?_ | refine S16 ?_ | refine S19 ?_ | refine S20 ?_ | refine S21 ?_ | refine S22 ?_ | refine S23 ?_ | refine S25 ?_ | refine S26 ?_ | refine S29 ?_ | refine S34 ?_ | refine S49 ?_)
    refine Scall (args := [pint n, pli b]) kb ?_
    repeat (first | refine S0 ?_ | refine S1 ?_ | refine S2 ?_ | refine S4 ?_ | refine S5 ?_ | refine S6 ?_ | refine S7 ?_ | refine S8 ?_ | refine S9 ?_ | refine S10 ?_ | refine S11 ?_ | refine S12 ?_ | refine S13 ?_ | refine S15 ?_ | refine S16 ?_ | refine S19 ?_ | refine S20 ?_ | refine S21 ?_ | refine S22 ?_ | refine S23 ?_ | refine S25 ?_ | refine S26 ?_ | refine S29 ?_ | refine S34 ?_ | refine S49 ?_)
    exact ⟨2, by omega, SLx, trivial, by omega⟩
  · repeat (first | refine S0 ?_ | refine S1 ?_ | refine S2 ?_ | refine S4 ?_ | refine S5 ?_ | refine S6 ?_ | refine S7 ?_ | refine S8 ?_ | refine S9 ?_ | refine S10 ?_ | refine S11 ?_ | refine S12 ?_ | refine S13 ?_ | refine S15 ?_ | refine S16 ?_ | refine S19 ?_ | refine S20 ?_ | refine S21 ?_ | refine S22 ?_ | refine S23 ?_ | refine S25 ?_ | refine S26 ?_ | refine S29 ?_ | refine S34 ?_ | refine S49 ?_)
    refine Scall (args := [pint n, pli a, pli b]) kput ?_
    repeat (first | refine S0 ?_ | refine S1 ?_ | refine S2 ?_ | refine S4 ?_ | refine S5 ?_ | refine S6 ?_ | refine S7 ?_ | refine S8 ?_ | refine S9 ?_ | refine S10 ?_ | refine S11 ?_ | refine S12 ?_ | refine S13 ?_ | refine S15 ?_ | refine S16 ?_ | refine S19 ?_ | refine S20 ?_ | refine S21 ?_ | refine S22 ?_ | refine S23 ?_ | refine S25 ?_ | refine S26 ?_ | refine S29 ?_ | refine S34 ?_ | refine S49 ?_)
    exact ⟨.inr rfl, .cl (show (PV.tup [pli o, pint c, pint 0]).cl = true by simp only [PV.cl, PV.cl.clL, pli_cl, pint_cl, Bool.and_self])⟩
set_option maxHeartbeats 8000000 in
set_option maxRecDepth 100000 in
theorem closure_bad {n : Int} {d : List Int} (h : matF n d ≠ 0) :
    SC Try.prog 6 [pint n, pli d] (.tup [pint 0, pint (matF n d)]) := by
  have kd := tcheck_s n d
  refine SC.go {} tok mixed Try.func6 rfl rfl Try.ntmps6 rfl rfl (by kernel_rfl) ?_
  first | simp only [updS] | simp only [updL, Nat.reduceAdd]
  repeat (first | refine S0 ?_ | refine S1 ?_ | refine S2 ?_ | refine S4 ?_ | refine S5 ?_ | refine S6 ?_ | refine S7 ?_ | refine S8 ?_ | refine S9 ?_ | refine S10 ?_ | refine S11 ?_ | refine S12 ?_ | refine S13 ?_ | refine S15 ?_ | refine S16 ?_ | refine S19 ?_ | refine S20 ?_ | refine S21 ?_ | refine S22 ?_ | refine S23 ?_ | refine S25 ?_ | refine S26 ?_ | refine S29 ?_ | refine S34 ?_ | refine S49 ?_)
  refine Scall (args := [pint n, pli d]) kd ?_
  generalize matF n d = y at *
  repeat (first | refine S0 ?_ | refine S1 ?_ | refine S2 ?_ | refine S4 ?_ | refine S5 ?_ | refine S6 ?_ | refine S7 ?_ | refine S8 ?_ | refine S9 ?_ | refine S10 ?_ | refine S11 ?_ | refine S12 ?_ | refine S13 ?_ | refine S15 ?_ | refine S16 ?_ | refine S19 ?_ | refine S20 ?_ | refine S21 ?_ | refine S22 ?_ | refine S23 ?_ | refine S25 ?_ | refine S26 ?_ | refine S29 ?_ | refine S34 ?_ | refine S49 ?_)
  exact ⟨.inr rfl, .cl rfl⟩
set_option maxHeartbeats 8000000 in
set_option maxRecDepth 100000 in
theorem closure_ok {n : Nat} {d : List Int} {c : Nat} (h : matF n d = 0) (hc : SC Try.prog 22 [pint n, pli d] (pint c)) :
    SC Try.prog 6 [pint n, pli d] (.tup [pint c, pint 0]) := by
  have kd := tcheck_s n d
  rw [h] at kd
  refine SC.go {} tok mixed Try.func6 rfl rfl Try.ntmps6 rfl rfl (by kernel_rfl) ?_
  first | simp only [updS] | simp only [updL, Nat.reduceAdd]
  repeat (first | refine S0 ?_ | refine S1 ?_ | refine S2 ?_ | refine S4 ?_ | refine S5 ?_ | refine S6 ?_ | refine S7 ?_ | refine S8 ?_ | refine S9 ?_ | refine S10 ?_ | refine S11 ?_ | refine S12 ?_ | refine S13 ?_ | refine S15 ?_ | refine S16 ?_ | refine S19 ?_ | refine S20 ?_ | refine S21 ?_ | refine S22 ?_ | refine S23 ?_ | refine S25 ?_ | refine S26 ?_ | refine S29 ?_ | refine S34 ?_ | refine S49 ?_)
  refine Scall (args := [pint n, pli d]) kd ?_
  repeat (first | refine S0 ?_ | refine S1 ?_ | refine S2 ?_ | refine S4 ?_ | refine S5 ?_ | refine S6 ?_ | refine S7 ?_ | refine S8 ?_ | refine S9 ?_ | refine S10 ?_ | refine S11 ?_ | refine S12 ?_ | refine S13 ?_ | refine S15 ?_ | refine S16 ?_ | refine S19 ?_ | refine S20 ?_ | refine S21 ?_ | refine S22 ?_ | refine S23 ?_ | refine S25 ?_ | refine S26 ?_ | refine S29 ?_ | refine S34 ?_ | refine S49 ?_)
  refine Scall (args := [pint n, pli d]) hc ?_
  repeat (first | refine S0 ?_ | refine S1 ?_ | refine S2 ?_ | refine S4 ?_ | refine S5 ?_ | refine S6 ?_ | refine S7 ?_ | refine S8 ?_ | refine S9 ?_ | refine S10 ?_ | refine S11 ?_ | refine S12 ?_ | refine S13 ?_ | refine S15 ?_ | refine S16 ?_ | refine S19 ?_ | refine S20 ?_ | refine S21 ?_ | refine S22 ?_ | refine S23 ?_ | refine S25 ?_ | refine S26 ?_ | refine S29 ?_ | refine S34 ?_ | refine S49 ?_)
  exact ⟨.inr rfl, .cl rfl⟩
end Go.Proofs.Ytpmdhkiolgpiaaa

/- A list without fault is a matching. Plain facts: nothing of the program is here. -/
set_option linter.unusedVariables false
set_option linter.unusedSimpArgs false
namespace Go.Proofs.Ytpmdhkiolgpiaaa

theorem mat_ok {n : Int} {d : List Int} (h : matF n d = 0) : ∃ (m : Nat) (a : Nat → Nat), n = m ∧ (1 ≤ m ∧ m ≤ 6) ∧ d = tabN (2 * m) a ∧ Mt m a := by
  unfold matF at h
  by_cases h1 : n < 1 ∨ 6 < n
  · rw [if_pos h1] at h; cases h
  · rw [if_neg h1] at h
    by_cases h2 : (d.length : Int) ≠ 2 * n
    · rw [if_pos h2] at h; cases h
    · rw [if_neg h2] at h
      have hl : (d.length : Int) = 2 * n := Classical.byContradiction h2
      by_cases h3 : (List.range d.length).any (bdm d) = true
      · rw [if_pos h3] at h; cases h
      · have hb : ∀ i, i < d.length → bdm d i = false := fun i hi => by
          cases e : bdm d i with
          | false => rfl
          | true => exact absurd (any_hit hi e) h3
        have hq : ∀ i, i < d.length → 0 ≤ d.getD i 0 ∧ d.getD i 0 < d.length ∧ d.getD i 0 ≠ i ∧ d.getD (d.getD i 0).toNat 0 = i := fun i hi => by
          have := hb i hi
          simp only [bdm, Bool.or_eq_false_iff, decide_eq_false_iff_not] at this
          obtain ⟨⟨⟨p1, p2⟩, p3⟩, p4⟩ := this
          exact ⟨by omega, by omega, p3, by first | exact Classical.byContradiction p4 | simpa using p4⟩
        refine ⟨n.toNat, fun i => (d.getD i 0).toNat, by omega, by omega, ?_, fun i hi => ?_, fun i hi => ?_, fun i hi => ?_⟩
        · apply List.ext_getElem (by simp; omega)
          intro j g1 g2
          have := hq j g1
          simp only [tabN, List.getElem_map, List.getElem_range]
          rw [show d[j] = d.getD j 0 by simp [List.getD, g1]]
          omega
        · have := hq i (by omega)
          show (d.getD i 0).toNat < _
          omega
        · have := hq i (by omega)
          show (d.getD i 0).toNat ≠ _
          omega
        · have := hq i (by omega)
          show (d.getD (d.getD i 0).toNat 0).toNat = _
          omega
end Go.Proofs.Ytpmdhkiolgpiaaa
