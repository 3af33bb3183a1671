/- The law MatchingProducts holds for all numbers and lists. No condition of its own. -/
import Derived.Test.YtpmdhkiolgpiaaaGMatchingProductsBO
import Derived.Test.YtpmdhkiolgpiaaaGMatchingProductsBX
import Derived.Test.YtpmdhkiolgpiaaaGMatchingProductsBY
import Derived.Test.YtpmdhkiolgpiaaaGMatchingProductsBV
set_option linter.unusedVariables false
set_option linter.unusedSimpArgs false
namespace Go.Proofs.Ytpmdhkiolgpiaaa
open Go.RowKit

def fTwo (a b : Nat → Nat) : Nat → Nat → Nat := fun k => if k = 0 then a else b
theorem ppK_two (n : Nat) (a b : Nat → Nat) : ppK n (fTwo a b) 2 = prsP n a b := by
  simp [ppK, pSt, prsP, fTwo]
theorem outM_two (n i : Nat) : outM n 2 i = outN n i := by
  unfold outM outN
  split <;> omega
theorem stack2_s {cl : Bool} {n : Nat} {a b o : Nat → Nat} {c : Nat} (hn : 1 ≤ n ∧ n ≤ 6) (ha : Mt n a) (hb : Mt n b) {r : Nat → Nat} (hrd : r = joinA id (prsP n a b))
    (key : ∀ i, i < 2 * n → o i < 2 * n ∧ o i ≠ i ∧ r (outN n i) = r (outN n (o i)) ∧ ∀ k', k' < 2 * n → k' ≠ i → r (outN n i) = r (outN n k') → k' = o i) (hc : sN (fun x => ind (r x = x)) (3 * n) = n + c) :
    SC Try.prog 8 [pint n, .lst cl 1 2 [pli (tabN (2 * n) a), pli (tabN (2 * n) b)]] (.tup [pli (tabN (2 * n) o), pint c]) := by
  have hrr : ∀ x, x < 3 * n → r x < 3 * n ∧ r (r x) = r x := by
    rw [hrd]
    refine joinA_ok _ _ (fun x hx => ⟨hx, rfl⟩) (fun p hp => ?_)
    rcases List.mem_append.1 hp with hp | hp
    · obtain ⟨i, hi, rfl⟩ := List.mem_map.1 hp
      have hi := List.mem_range.1 hi
      have := ha.lt i hi
      exact ⟨by simp only; omega, by simp only; omega⟩
    · obtain ⟨i, hi, rfl⟩ := List.mem_map.1 hp
      have hi := List.mem_range.1 hi
      have := hb.lt i hi
      exact ⟨by simp only; omega, by simp only; omega⟩
  have hN : n * (2 + 1) = 3 * n := by omega
  refine stack_s (m := 2) (f := fTwo a b) (r := r) hn (by omega) (fun k hk => ?_) (by rw [ppK_two]; exact hrd) (by rw [hN]; exact hrr) (fun i hi => ?_) (by rw [hN]; exact hc)
  · unfold fTwo
    split <;> assumption
  · simp only [outM_two]
    exact key i hi
theorem nil2 {P : Program} {f : FuncId} {r : PV} (h : SC P f [pli [], pli []] r) : SC P f [.lst true 0 0 [], .lst true 0 0 []] r := SC.weak h rfl
set_option maxHeartbeats 16000000 in
set_option maxRecDepth 100000 in
theorem mproducts_s (n : Int) (a b : List Int) : SC Try.prog 3 [pint n, pli a, pli b] (.sc (.bool true)) := by
  have kM := matched_s
  have ka := mfault_t n a
  have kb := mfault_t n b
  by_cases h1 : matF n a = 0
  · by_cases h2 : matF n b = 0
    · have kp0 := @product_ok n a b
      obtain ⟨m, fa, rfl, hm, rfl, hA⟩ := mat_ok h1
      obtain ⟨m', fb, e, _, rfl, hB⟩ := mat_ok h2
      obtain rfl : m = m' := by omega
      obtain ⟨o, c, q1, q2, q3⟩ := put_fix hA hB rfl
      have kp := kp0 h1 h2 (put_s (o := o) (c := c) ⟨hm.1, by omega⟩ hA hB q1)
      have kS := stack2_s (cl := true) hm hA hB rfl q2 q3
      have hcl := close_fix hA rfl
      have kC := circles_s (n := m) ⟨hm.1, by omega⟩ hA
      have kc := closure_ok h1 (close_s ⟨hm.1, by omega⟩ hA hcl)
      have ke := equal_refl (tabN (2 * m) o)
      rw [h1] at ka
      rw [h2] at kb
      generalize sN (fun x => ind (joinA id (prsC m fa) x = x)) (2 * m) = cc at *
      clear q1 q2 q3 hcl kp0
      refine SC.go {} tok mixed Try.func3 rfl rfl Try.ntmps3 rfl rfl (by kernel_rfl) ?_
      first | simp only [updS] | simp only [updL, Nat.reduceAdd]
      repeat (first | refine S0 ?_ | refine S1 ?_ | refine S2 ?_ | refine S5 ?_ | refine S7 ?_ | refine S8 ?_ | refine S15 ?_ | refine S16 ?_ | refine S19 ?_ | refine S20 ?_ | refine S28 ?_ | refine S34 ?_ | refine S37 ?_ | refine S40 ?_ | refine S49 ?_)
      refine Scall (args := [pint m, pli (tabN (2 * m) fa), pli (tabN (2 * m) fb)]) kp ?_
      repeat (first | refine S0 ?_ | refine S1 ?_ | refine S2 ?_ | refine S5 ?_ | refine S7 ?_ | refine S8 ?_ | refine S15 ?_ | refine S16 ?_ | refine S19 ?_ | refine S20 ?_ | refine S28 ?_ | refine S34 ?_ | refine S37 ?_ | refine S40 ?_ | refine S49 ?_)
      refine Scall (args := [pint m, pli (tabN (2 * m) fa)]) kc ?_
      repeat (first | refine S0 ?_ | refine S1 ?_ | refine S2 ?_ | refine S5 ?_ | refine S7 ?_ | refine S8 ?_ | refine S15 ?_ | refine S16 ?_ | refine S19 ?_ | refine S20 ?_ | refine S28 ?_ | refine S34 ?_ | refine S37 ?_ | refine S40 ?_ | refine S49 ?_)
      refine Scall (args := [pint m, pli (tabN (2 * m) fa)]) ka ?_
      repeat (first | refine S0 ?_ | refine S1 ?_ | refine S2 ?_ | refine S5 ?_ | refine S7 ?_ | refine S8 ?_ | refine S15 ?_ | refine S16 ?_ | refine S19 ?_ | refine S20 ?_ | refine S28 ?_ | refine S34 ?_ | refine S37 ?_ | refine S40 ?_ | refine S49 ?_)
      refine Scall (args := [pint m, pli (tabN (2 * m) fb)]) kb ?_
      repeat (first | refine S0 ?_ | refine S1 ?_ | refine S2 ?_ | refine S5 ?_ | refine S7 ?_ | refine S8 ?_ | refine S15 ?_ | refine S16 ?_ | refine S19 ?_ | refine S20 ?_ | refine S28 ?_ | refine S34 ?_ | refine S37 ?_ | refine S40 ?_ | refine S49 ?_)
      refine Scall (args := [pint m, .lst true 1 2 [pli (tabN (2 * m) fa), pli (tabN (2 * m) fb)]]) kS ?_
      repeat (first | refine S0 ?_ | refine S1 ?_ | refine S2 ?_ | refine S5 ?_ | refine S7 ?_ | refine S8 ?_ | refine S15 ?_ | refine S16 ?_ | refine S19 ?_ | refine S20 ?_ | refine S28 ?_ | refine S34 ?_ | refine S37 ?_ | refine S40 ?_ | refine S49 ?_)
      refine Scall (args := [pint m, pli (tabN (2 * m) fa)]) kC ?_
      repeat (first | refine S0 ?_ | refine S1 ?_ | refine S2 ?_ | refine S5 ?_ | refine S7 ?_ | refine S8 ?_ | refine S15 ?_ | refine S16 ?_ | refine S19 ?_ | refine S20 ?_ | refine S28 ?_ | refine S34 ?_ | refine S37 ?_ | refine S40 ?_ | refine S49 ?_)
      refine Scall (args := []) kM ?_
      repeat (first | refine S0 ?_ | refine S1 ?_ | refine S2 ?_ | refine S5 ?_ | refine S7 ?_ | refine S8 ?_ | refine S15 ?_ | refine S16 ?_ | refine S19 ?_ | refine S20 ?_ | refine S28 ?_ | refine S34 ?_ | refine S37 ?_ | refine S40 ?_ | refine S49 ?_)
      refine Scall (args := [pli (tabN (2 * m) o), pli (tabN (2 * m) o)]) ke ?_
      repeat (first | refine S0 ?_ | refine S1 ?_ | refine S2 ?_ | refine S5 ?_ | refine S7 ?_ | refine S8 ?_ | refine S15 ?_ | refine S16 ?_ | refine S19 ?_ | refine S20 ?_ | refine S28 ?_ | refine S34 ?_ | refine S37 ?_ | refine S40 ?_ | refine S49 ?_)
      exact ⟨.inr rfl, .cl rfl⟩
    · have kp := product_bad (n := n) (a := a) (b := b) (.inr h2)
      rw [if_neg (fun h => h h1)] at kp
      obtain ⟨m, fa, rfl, hm, rfl, hA⟩ := mat_ok h1
      have hcl := close_fix hA rfl
      have kC := circles_s (n := m) ⟨hm.1, by omega⟩ hA
      have kc := closure_ok h1 (close_s ⟨hm.1, by omega⟩ hA hcl)
      have ke := nil2 (equal_refl [])
      rw [h1] at ka
      generalize sN (fun x => ind (joinA id (prsC m fa) x = x)) (2 * m) = cc at *
      generalize matF m b = g at *
      clear hcl
      refine SC.go {} tok mixed Try.func3 rfl rfl Try.ntmps3 rfl rfl (by kernel_rfl) ?_
      first | simp only [updS] | simp only [updL, Nat.reduceAdd]
      repeat (first | refine S0 ?_ | refine S1 ?_ | refine S2 ?_ | refine S5 ?_ | refine S7 ?_ | refine S8 ?_ | refine S15 ?_ | refine S16 ?_ | refine S19 ?_ | refine S20 ?_ | refine S28 ?_ | refine S34 ?_ | refine S37 ?_ | refine S40 ?_ | refine S49 ?_)
      refine Scall (args := [pint m, pli (tabN (2 * m) fa), pli b]) kp ?_
      repeat (first | refine S0 ?_ | refine S1 ?_ | refine S2 ?_ | refine S5 ?_ | refine S7 ?_ | refine S8 ?_ | refine S15 ?_ | refine S16 ?_ | refine S19 ?_ | refine S20 ?_ | refine S28 ?_ | refine S34 ?_ | refine S37 ?_ | refine S40 ?_ | refine S49 ?_)
      refine Scall (args := [pint m, pli (tabN (2 * m) fa)]) kc ?_
      repeat (first | refine S0 ?_ | refine S1 ?_ | refine S2 ?_ | refine S5 ?_ | refine S7 ?_ | refine S8 ?_ | refine S15 ?_ | refine S16 ?_ | refine S19 ?_ | refine S20 ?_ | refine S28 ?_ | refine S34 ?_ | refine S37 ?_ | refine S40 ?_ | refine S49 ?_)
      refine Scall (args := [pint m, pli (tabN (2 * m) fa)]) ka ?_
      repeat (first | refine S0 ?_ | refine S1 ?_ | refine S2 ?_ | refine S5 ?_ | refine S7 ?_ | refine S8 ?_ | refine S15 ?_ | refine S16 ?_ | refine S19 ?_ | refine S20 ?_ | refine S28 ?_ | refine S34 ?_ | refine S37 ?_ | refine S40 ?_ | refine S49 ?_)
      refine Scall (args := [pint m, pli b]) kb ?_
      repeat (first | refine S0 ?_ | refine S1 ?_ | refine S2 ?_ | refine S5 ?_ | refine S7 ?_ | refine S8 ?_ | refine S15 ?_ | refine S16 ?_ | refine S19 ?_ | refine S20 ?_ | refine S28 ?_ | refine S34 ?_ | refine S37 ?_ | refine S40 ?_ | refine S49 ?_)
      refine Scall (args := [pint m, pli (tabN (2 * m) fa)]) kC ?_
      repeat (first | refine S0 ?_ | refine S1 ?_ | refine S2 ?_ | refine S5 ?_ | refine S7 ?_ | refine S8 ?_ | refine S15 ?_ | refine S16 ?_ | refine S19 ?_ | refine S20 ?_ | refine S28 ?_ | refine S34 ?_ | refine S37 ?_ | refine S40 ?_ | refine S49 ?_)
      refine Scall (args := []) kM ?_
      repeat (first | refine S0 ?_ | refine S1 ?_ | refine S2 ?_ | refine S5 ?_ | refine S7 ?_ | refine S8 ?_ | refine S15 ?_ | refine S16 ?_ | refine S19 ?_ | refine S20 ?_ | refine S28 ?_ | refine S34 ?_ | refine S37 ?_ | refine S40 ?_ | refine S49 ?_)
      refine Scall (args := [.lst true 0 0 [], .lst true 0 0 []]) ke ?_
      repeat (first | refine S0 ?_ | refine S1 ?_ | refine S2 ?_ | refine S5 ?_ | refine S7 ?_ | refine S8 ?_ | refine S15 ?_ | refine S16 ?_ | refine S19 ?_ | refine S20 ?_ | refine S28 ?_ | refine S34 ?_ | refine S37 ?_ | refine S40 ?_ | refine S49 ?_)
      exact ⟨.inr rfl, .cl rfl⟩
  · have kp := product_bad (n := n) (a := a) (b := b) (.inl h1)
    rw [if_pos h1] at kp
    have kc := closure_bad h1
    have ke := nil2 (equal_refl [])
    generalize matF n a = g at *
    clear kb
    refine SC.go {} tok mixed Try.func3 rfl rfl Try.ntmps3 rfl rfl (by kernel_rfl) ?_
    first | simp only [updS] | simp only [updL, Nat.reduceAdd]
    repeat (first | refine S0 ?_ | refine S1 ?_ | refine S2 ?_ | refine S5 ?_ | refine S7 ?_ | refine S8 ?_ | refine S15 ?_ | refine S16 ?_ | refine S19 ?_ | refine S20 ?_ | refine S28 ?_ | refine S34 ?_ | refine S37 ?_ | refine S40 ?_ | refine S49 ?_)
    refine Scall (args := [pint n, pli a, pli b]) kp ?_
    repeat (first | refine S0 ?_ | refine S1 ?_ | refine S2 ?_ | refine S5 ?_ | refine S7 ?_ | refine S8 ?_ | refine S15 ?_ | refine S16 ?_ | refine S19 ?_ | refine S20 ?_ | refine S28 ?_ | refine S34 ?_ | refine S37 ?_ | refine S40 ?_ | refine S49 ?_)
    refine Scall (args := [pint n, pli a]) kc ?_
    repeat (first | refine S0 ?_ | refine S1 ?_ | refine S2 ?_ | refine S5 ?_ | refine S7 ?_ | refine S8 ?_ | refine S15 ?_ | refine S16 ?_ | refine S19 ?_ | refine S20 ?_ | refine S28 ?_ | refine S34 ?_ | refine S37 ?_ | refine S40 ?_ | refine S49 ?_)
    refine Scall (args := [pint n, pli a]) ka ?_
    repeat (first | refine S0 ?_ | refine S1 ?_ | refine S2 ?_ | refine S5 ?_ | refine S7 ?_ | refine S8 ?_ | refine S15 ?_ | refine S16 ?_ | refine S19 ?_ | refine S20 ?_ | refine S28 ?_ | refine S34 ?_ | refine S37 ?_ | refine S40 ?_ | refine S49 ?_)
    refine Scall (args := []) kM ?_
    repeat (first | refine S0 ?_ | refine S1 ?_ | refine S2 ?_ | refine S5 ?_ | refine S7 ?_ | refine S8 ?_ | refine S15 ?_ | refine S16 ?_ | refine S19 ?_ | refine S20 ?_ | refine S28 ?_ | refine S34 ?_ | refine S37 ?_ | refine S40 ?_ | refine S49 ?_)
    refine Scall (args := [.lst true 0 0 [], .lst true 0 0 []]) ke ?_
    repeat (first | refine S0 ?_ | refine S1 ?_ | refine S2 ?_ | refine S5 ?_ | refine S7 ?_ | refine S8 ?_ | refine S15 ?_ | refine S16 ?_ | refine S19 ?_ | refine S20 ?_ | refine S28 ?_ | refine S34 ?_ | refine S37 ?_ | refine S40 ?_ | refine S49 ?_)
    exact ⟨.inr rfl, .cl rfl⟩
end Go.Proofs.Ytpmdhkiolgpiaaa
