/- Runs of the walks exist, and all end alike. Plain facts: nothing of the program is here. -/
import Derived.Test.YtpmdhkiolgpiaaaGMatchingProductsBJ
import Derived.Test.YtpmdhkiolgpiaaaGMatchingProductsAA
import Derived.Test.YtpmdhkiolgpiaaaGMatchingProductsBA
import Derived.Test.YtpmdhkiolgpiaaaGMatchingProductsBF
set_option linter.unusedVariables false
set_option linter.unusedSimpArgs false
namespace Go.Proofs.Ytpmdhkiolgpiaaa

theorem joinR_ok {N : Nat} {r : Nat → Nat} (h : ∀ x, x < N → r x < N ∧ r (r x) = r x) {a b : Nat} (ha : a < N) (hb : b < N) : ∀ x, x < N → joinR r a b x < N ∧ joinR r a b (joinR r a b x) = joinR r a b x := fun x hx => by
  have h1 := h x hx
  have h2 := h b hb
  unfold joinR
  by_cases c : r x = r a
  · simp only [if_pos c]
    refine ⟨h2.1, ?_⟩
    split
    · rfl
    · exact h2.2
  · simp only [if_neg c]
    refine ⟨h1.1, ?_⟩
    rw [h1.2, if_neg c]
theorem joinA_ok {N : Nat} : ∀ (ps : List (Nat × Nat)) (r : Nat → Nat), (∀ x, x < N → r x < N ∧ r (r x) = r x) → (∀ p ∈ ps, p.1 < N ∧ p.2 < N) → ∀ x, x < N → joinA r ps x < N ∧ joinA r ps (joinA r ps x) = joinA r ps x
  | [], r, h, _ => h
  | p :: ps, r, h, hp => joinA_ok ps _ (joinR_ok h (hp p (by simp)).1 (hp p (by simp)).2) (fun q hq => hp q (by simp [hq]))
theorem ex_wg {n : Nat} : ∀ (m : Nat) (g : Lns) (p : Nat), tdeg g n ≤ m → Gr n g → p < n → ∃ g' e, Wg g p g' e
  | m, g, p, hm, hg, hp => by
    cases e : g p with
    | nil => exact ⟨g, p, .stop e⟩
    | cons q r =>
      have := tdeg_cut hg hp e
      obtain ⟨h1, h2, _, _⟩ := hg.cut hp e
      cases m with
      | zero => omega
      | succ m =>
        obtain ⟨g', e', hw⟩ := ex_wg m (cutG g p q) q (by omega) h1 h2
        exact ⟨g', e', .step e hw⟩
theorem ex_lp {n : Nat} : ∀ (d p : Nat) (g : Lns), p + d = n → Gr n g → ∃ c, Lp n p g c
  | 0, p, g, hp, hg => by
    obtain rfl : p = n := by omega
    exact ⟨0, .done⟩
  | d + 1, p, g, hp, hg => by
    by_cases e : g p = []
    · obtain ⟨c, h⟩ := ex_lp d (p + 1) g (by omega) hg
      exact ⟨c, .skip (by omega) e h⟩
    · obtain ⟨g', e', hw⟩ := ex_wg _ g p (Nat.le_refl _) hg (by omega)
      obtain ⟨c, h⟩ := ex_lp d (p + 1) g' (by omega) (hw.base hg (by omega)).1
      exact ⟨c + 1, .take (by omega) e hw h⟩
theorem ex_ph {n : Nat} : ∀ (d p : Nat) (g : Lns) (o : Nat → Nat), p + d = 3 * n → Gr (3 * n) g → ∃ g' o', Ph n p g o g' o' ∧ Gr (3 * n) g'
  | 0, p, g, o, hp, hg => by
    obtain rfl : p = 3 * n := by omega
    exact ⟨g, o, .done, hg⟩
  | d + 1, p, g, o, hp, hg => by
    by_cases e : isO n p ∧ g p ≠ []
    · obtain ⟨g1, e1, hw⟩ := ex_wg _ g p (Nat.le_refl _) hg (by omega)
      obtain ⟨g', o', h, h2⟩ := ex_ph d (p + 1) g1 (ov2 (ov2 o (ptN n p) (ptN n e1)) (ptN n e1) (ptN n p)) (by omega) (hw.base hg (by omega)).1
      exact ⟨g', o', .take (by omega) e.1 e.2 hw h, h2⟩
    · obtain ⟨g', o', h, h2⟩ := ex_ph d (p + 1) g o (by omega) hg
      exact ⟨g', o', .skip (by omega) e h, h2⟩
theorem put_fix {n : Nat} {a b : Nat → Nat} (ha : Mt n a) (hb : Mt n b) {r : Nat → Nat} (hrd : r = joinA id (prsP n a b)) : ∃ (o : Nat → Nat) (c : Nat),
    (∀ g' o' c', Ph n 0 (gPut n a b (2 * n)) (fun _ => 0) g' o' → Lp (3 * n) 0 g' c' → (∀ i, i < 2 * n → o' i = o i) ∧ c' = c) ∧
    (∀ i, i < 2 * n → o i < 2 * n ∧ o i ≠ i ∧ r (outN n i) = r (outN n (o i)) ∧ ∀ k', k' < 2 * n → k' ≠ i → r (outN n i) = r (outN n k') → k' = o i) ∧ sN (fun x => ind (r x = x)) (3 * n) = n + c := by
  have hrr : ∀ x, x < 3 * n → r x < 3 * n ∧ r (r x) = r x := by
    rw [hrd]
    refine joinA_ok _ _ (fun x hx => ⟨hx, rfl⟩) (fun p hp => ?_)
    rcases List.mem_append.1 hp with hp | hp
    · obtain ⟨i, hi, rfl⟩ := List.mem_map.1 hp
      have hi := List.mem_range.1 hi
      have := ha.lt i hi
      exact ⟨by simp only; omega, by simp only; omega⟩
    · obtain ⟨i, hi, rfl⟩ := List.mem_map.1 hp
      have hi := List.mem_range.1 hi
      have := hb.lt i hi
      exact ⟨by simp only; omega, by simp only; omega⟩
  obtain ⟨g0, o0, hP, hg0⟩ := ex_ph (3 * n) 0 (gPut n a b (2 * n)) (fun _ => 0) (by omega) (gPut_gr ha hb)
  obtain ⟨c0, hL⟩ := ex_lp (3 * n) 0 g0 (by omega) hg0
  obtain ⟨l1, l2⟩ := put_law ha hb hrd hrr hP hL
  have key : ∀ i, i < 2 * n → o0 i < 2 * n ∧ o0 i ≠ i ∧ r (outN n i) = r (outN n (o0 i)) ∧ ∀ k', k' < 2 * n → k' ≠ i → r (outN n i) = r (outN n k') → k' = o0 i := fun i hi => by
    obtain ⟨k, q1, q2, q3, q4, q5⟩ := l1 i hi
    rw [q2]
    exact ⟨q1, q3, q4, q5⟩
  refine ⟨o0, c0, fun g' o' c' hP' hL' => ?_, key, l2⟩
  obtain ⟨m1, m2⟩ := put_law ha hb hrd hrr hP' hL'
  refine ⟨fun i hi => ?_, by omega⟩
  obtain ⟨k, q1, q2, q3, q4, q5⟩ := m1 i hi
  rw [q2]
  exact (key i hi).2.2.2 k q1 q3 q4
theorem close_fix {n : Nat} {d : Nat → Nat} (h : Mt n d) {r : Nat → Nat} (hrd : r = joinA id (prsC n d)) : ∀ c', Lp (2 * n) 0 (gCls n d (2 * n)) c' → c' = sN (fun x => ind (r x = x)) (2 * n) := fun c' hL => by
  have hrr : ∀ x, x < 2 * n → r x < 2 * n ∧ r (r x) = r x := by
    rw [hrd]
    refine joinA_ok _ _ (fun x hx => ⟨hx, rfl⟩) (fun p hp => ?_)
    obtain ⟨i, hi, hp⟩ := List.mem_flatMap.1 hp
    have hi := List.mem_range.1 hi
    have h1 := h.lt i hi
    have h2 := (opp_mt n).lt i hi
    simp only [List.mem_cons, List.not_mem_nil, or_false] at hp
    rcases hp with rfl | rfl
    · exact ⟨hi, h1⟩
    · exact ⟨hi, h2⟩
  exact (close_law h hrd hrr hL).symm
end Go.Proofs.Ytpmdhkiolgpiaaa

/- timbref1.Joined: At. No condition of its own. -/
set_option linter.unusedVariables false
set_option linter.unusedSimpArgs false
namespace Go.Proofs.Ytpmdhkiolgpiaaa
open Go.RowKit

theorem RN.split {j : List Int} {y ρ k : Nat} (h : RN j y ρ k) : (j.getD y 0 = (y : Int) ∧ y = ρ) ∨ ∃ (z k' : Nat), j.getD y 0 = (z : Int) ∧ z ≠ y ∧ RN j z ρ k' ∧ k = k' + 1 := by
  cases h with
  | root h => exact .inl ⟨h, rfl⟩
  | step h1 h2 h3 => exact .inr ⟨_, _, h1, h2, h3, rfl⟩
set_option maxHeartbeats 4000000 in
set_option maxRecDepth 100000 in
theorem at_s {js : List Int} {n : Nat} {r : Nat → Nat} (H : Uf js n r) (hn : n ≤ 1000000) {x : Nat} (hx : x < n) : SC Try.prog 26 [pli js, pint x] (pint (r x)) := by
  obtain ⟨hr, k0, hk0⟩ := H.rt x hx
  have hl := H.len
  obtain ⟨ρ, hρ⟩ : ∃ ρ, ρ = r x := ⟨_, rfl⟩
  rw [← hρ] at hk0 ⊢
  refine SC.go {} tok mixed Try.func26 rfl rfl Try.ntmps26 rfl rfl (by kernel_rfl) ?_
  first | simp only [updS] | simp only [updL, Nat.reduceAdd]
  repeat (first | refine S0 ?_ | refine S1 ?_ | refine S2 ?_ | refine S4 ?_ | refine S5 ?_ | refine S6 ?_ | refine S7 ?_ | refine S8 ?_ | refine S10 ?_ | refine S11 ?_ | refine S13 ?_ | refine S15 ?_ | refine S16 ?_ | refine S19 ?_ | refine S20 ?_ | refine S25 ?_ | refine S26 ?_ | refine S27 ?_ | refine S29 ?_ | refine S46 ?_)
  refine CW.loopS (fun i : Nat × Nat => i.1 < n ∧ RN js i.1 ρ i.2) (fun i => [(0, pli js), (1, pint i.1)]) (fun _ _ => True) (fun i => i.2) (x, k0) ⟨⟨hx, hk0⟩, SLx, trivial⟩ ?_
  rintro ⟨y, k⟩ t hp ⟨hy, hR⟩ _
  simp only at hy hR
  first | simp only [updS] | simp only [updL, Nat.reduceAdd]
  obtain ⟨z, hz1, hz2⟩ := H.inn y hy
  rcases hR.split with ⟨g1, g2⟩ | ⟨z', k', g1, g2, g3, g4⟩
  · repeat (first | refine S0 ?_ | refine S1 ?_ | refine S2 ?_ | refine S4 ?_ | refine S5 ?_ | refine S6 ?_ | refine S7 ?_ | refine S8 ?_ | refine S10 ?_ | refine S11 ?_ | refine S13 ?_ | refine S15 ?_ | refine S16 ?_ | refine S19 ?_ | refine S20 ?_ | refine S25 ?_ | refine S26 ?_ | refine S27 ?_ | refine S29 ?_ | refine S46 ?_)
    subst g2
    exact ⟨.inr rfl, .cl rfl⟩
  · have hz : js.getD y 0 ≠ (y : Int) := by omega
    repeat (first | refine S0 ?_ | refine S1 ?_ | refine S2 ?_ | refine S4 ?_ | refine S5 ?_ | refine S6 ?_ | refine S7 ?_ | refine S8 ?_ | refine S10 ?_ | refine S11 ?_ | refine S13 ?_ | refine S15 ?_ | refine S16 ?_ | refine S19 ?_ | refine S20 ?_ | refine S25 ?_ | refine S26 ?_ | refine S27 ?_ | refine S29 ?_ | refine S46 ?_)
    rw [g1]
    exact ⟨(z', k'), ⟨by simp only; omega, g3⟩, SLx, trivial, by simp only; omega⟩
set_option maxHeartbeats 4000000 in
set_option maxRecDepth 100000 in
theorem at_e {js : List Int} {n : Nat} {r : Nat → Nat} (H : Uf js n r) (hn : n ≤ 1000000) {x tk : Nat} (hx : x < n) {h : HP} (hb : h.blk tk = some (ints js)) : SChE Try.prog 26 [.ref tk 0 1 n, pint x] h (fun v h' => v = pint (r x) ∧ h'.blk tk = some (ints js) ∧ Fr [] h h') := by
  obtain ⟨hr, k0, hk0⟩ := H.rt x hx
  have hl := H.len
  obtain ⟨ρ, hρ⟩ : ∃ ρ, ρ = r x := ⟨_, rfl⟩
  rw [← hρ] at hk0 ⊢
  refine SChE.go {} tok mixed Try.func26 rfl rfl Try.ntmps26 rfl rfl (by kernel_rfl) (fun hw => ?_)
  first | simp only [updS] | simp only [updL, Nat.reduceAdd]
  have htk := hw.lt hb
  repeat (first | refine S0 ?_ | refine S1 ?_ | refine S2 ?_ | refine S4 ?_ | refine S5 ?_ | refine S6 ?_ | refine S7 ?_ | refine S8 ?_ | refine S10 ?_ | refine S11 ?_ | refine S13 ?_ | refine S15 ?_ | refine S16 ?_ | refine S19 ?_ | refine S20 ?_ | refine S25 ?_ | refine S26 ?_ | refine S27 ?_ | refine S29 ?_ | refine S46 ?_)
  refine CW.loopS (fun i : Nat × Nat => i.1 < n ∧ RN js i.1 ρ i.2) (fun i => [(0, .ref tk 0 1 n), (1, pint i.1)]) (fun _ hp => hp.blk tk = some (ints js) ∧ Fr [] h hp) (fun i => i.2) (x, k0) ⟨⟨hx, hk0⟩, SLx, hb, Fr.refl _ _⟩ ?_
  rintro ⟨y, k⟩ t hp ⟨hy, hR⟩ ⟨hB, hF⟩
  simp only at hy hR
  first | simp only [updS] | simp only [updL, Nat.reduceAdd]
  obtain ⟨z, hz1, hz2⟩ := H.inn y hy
  rcases hR.split with ⟨g1, g2⟩ | ⟨z', k', g1, g2, g3, g4⟩
  · repeat (first | refine S0 ?_ | refine S1 ?_ | refine S2 ?_ | refine S4 ?_ | refine S5 ?_ | refine S6 ?_ | refine S7 ?_ | refine S8 ?_ | refine S10 ?_ | refine S11 ?_ | refine S13 ?_ | refine S15 ?_ | refine S16 ?_ | refine S19 ?_ | refine S20 ?_ | refine S25 ?_ | refine S26 ?_ | refine S27 ?_ | refine S29 ?_ | refine S46 ?_)
    subst g2
    exact ⟨.inr rfl, _, ⟨_, rfl, rfl⟩, rfl, hB, hF⟩
  · have hz : js.getD y 0 ≠ (y : Int) := by omega
    repeat (first | refine S0 ?_ | refine S1 ?_ | refine S2 ?_ | refine S4 ?_ | refine S5 ?_ | refine S6 ?_ | refine S7 ?_ | refine S8 ?_ | refine S10 ?_ | refine S11 ?_ | refine S13 ?_ | refine S15 ?_ | refine S16 ?_ | refine S19 ?_ | refine S20 ?_ | refine S25 ?_ | refine S26 ?_ | refine S27 ?_ | refine S29 ?_ | refine S46 ?_)
    rw [g1]
    exact ⟨(z', k'), ⟨by simp only; omega, g3⟩, SLx, ⟨hB, hF⟩, by simp only; omega⟩
end Go.Proofs.Ytpmdhkiolgpiaaa
