/- timbref1.Joined: At. No condition of its own. -/
import Derived.Test.YthacglggkgmbhaaGGroupOrbitsBT
import Derived.Test.YthacglggkgmbhaaGGroupOrbitsAS
import Derived.Test.YthacglggkgmbhaaGGroupOrbitsAU
import Derived.Test.YthacglggkgmbhaaGGroupOrbitsAX
import Derived.Test.YthacglggkgmbhaaGGroupOrbitsBF
set_option linter.unusedVariables false
set_option linter.unusedSimpArgs false
namespace Go.Proofs.Ythacglggkgmbhaa
open Go.RowKit

theorem RN.split {j : List Int} {y ρ k : Nat} (h : RN j y ρ k) : (j.getD y 0 = (y : Int) ∧ y = ρ) ∨ ∃ (z k' : Nat), j.getD y 0 = (z : Int) ∧ z ≠ y ∧ RN j z ρ k' ∧ k = k' + 1 := by
  cases h with
  | root h => exact .inl ⟨h, rfl⟩
  | step h1 h2 h3 => exact .inr ⟨_, _, h1, h2, h3, rfl⟩
set_option maxHeartbeats 4000000 in
set_option maxRecDepth 100000 in
theorem at_s {js : List Int} {n : Nat} {r : Nat → Nat} (H : Uf js n r) (hn : n ≤ 1000000) {x : Nat} (hx : x < n) : SC Try.prog 22 [pli js, pint x] (pint (r x)) := by
  obtain ⟨hr, k0, hk0⟩ := H.rt x hx
  have hl := H.len
  obtain ⟨ρ, hρ⟩ : ∃ ρ, ρ = r x := ⟨_, rfl⟩
  rw [← hρ] at hk0 ⊢
  refine SC.go {} tok mixed Try.func22 rfl rfl Try.ntmps22 rfl rfl (by kernel_rfl) ?_
  first | simp only [updS] | simp only [updL, Nat.reduceAdd]
  repeat (first | refine S0 ?_ | refine S1 ?_ | refine S2 ?_ | refine S4 ?_ | refine S5 ?_ | refine S6 ?_ | refine S7 ?_ | refine S8 ?_ | refine S10 ?_ | refine S11 ?_ | refine S13 ?_ | refine S15 ?_ | refine S16 ?_ | refine S19 ?_ | refine S20 ?_ | refine S25 ?_ | refine S26 ?_ | refine S27 ?_ | refine S29 ?_ | refine S46 ?_)
  refine CW.loopS (fun i : Nat × Nat => i.1 < n ∧ RN js i.1 ρ i.2) (fun i => [(0, pli js), (1, pint i.1)]) (fun _ _ => True) (fun i => i.2) (x, k0) ⟨⟨hx, hk0⟩, SLx, trivial⟩ ?_
  rintro ⟨y, k⟩ t hp ⟨hy, hR⟩ _
  simp only at hy hR
  first | simp only [updS] | simp only [updL, Nat.reduceAdd]
  obtain ⟨z, hz1, hz2⟩ := H.inn y hy
  rcases hR.split with ⟨g1, g2⟩ | ⟨z', k', g1, g2, g3, g4⟩
  · repeat (first | refine S0 ?_ | refine S1 ?_ | refine S2 ?_ | refine S4 ?_ | refine S5 ?_ | refine S6 ?_ | refine S7 ?_ | refine S8 ?_ | refine S10 ?_ | refine S11 ?_ | refine S13 ?_ | refine S15 ?_ | refine S16 ?_ | refine S19 ?_ | refine S20 ?_ | refine S25 ?_ | refine S26 ?_ | refine S27 ?_ | refine S29 ?_ | refine S46 ?_)
    subst g2
    exact ⟨.inr rfl, .cl rfl⟩
  · have hz : js.getD y 0 ≠ (y : Int) := by omega
    repeat (first | refine S0 ?_ | refine S1 ?_ | refine S2 ?_ | refine S4 ?_ | refine S5 ?_ | refine S6 ?_ | refine S7 ?_ | refine S8 ?_ | refine S10 ?_ | refine S11 ?_ | refine S13 ?_ | refine S15 ?_ | refine S16 ?_ | refine S19 ?_ | refine S20 ?_ | refine S25 ?_ | refine S26 ?_ | refine S27 ?_ | refine S29 ?_ | refine S46 ?_)
    rw [g1]
    exact ⟨(z', k'), ⟨by simp only; omega, g3⟩, SLx, trivial, by simp only; omega⟩
set_option maxHeartbeats 4000000 in
set_option maxRecDepth 100000 in
theorem at_e {js : List Int} {n : Nat} {r : Nat → Nat} (H : Uf js n r) (hn : n ≤ 1000000) {x tk : Nat} (hx : x < n) {h : HP} (hb : h.blk tk = some (ints js)) : SChE Try.prog 22 [.ref tk 0 1 n, pint x] h (fun v h' => v = pint (r x) ∧ h'.blk tk = some (ints js) ∧ Fr [] h h') := by
  obtain ⟨hr, k0, hk0⟩ := H.rt x hx
  have hl := H.len
  obtain ⟨ρ, hρ⟩ : ∃ ρ, ρ = r x := ⟨_, rfl⟩
  rw [← hρ] at hk0 ⊢
  refine SChE.go {} tok mixed Try.func22 rfl rfl Try.ntmps22 rfl rfl (by kernel_rfl) (fun hw => ?_)
  first | simp only [updS] | simp only [updL, Nat.reduceAdd]
  have htk := hw.lt hb
  repeat (first | refine S0 ?_ | refine S1 ?_ | refine S2 ?_ | refine S4 ?_ | refine S5 ?_ | refine S6 ?_ | refine S7 ?_ | refine S8 ?_ | refine S10 ?_ | refine S11 ?_ | refine S13 ?_ | refine S15 ?_ | refine S16 ?_ | refine S19 ?_ | refine S20 ?_ | refine S25 ?_ | refine S26 ?_ | refine S27 ?_ | refine S29 ?_ | refine S46 ?_)
  refine CW.loopS (fun i : Nat × Nat => i.1 < n ∧ RN js i.1 ρ i.2) (fun i => [(0, .ref tk 0 1 n), (1, pint i.1)]) (fun _ hp => hp.blk tk = some (ints js) ∧ Fr [] h hp) (fun i => i.2) (x, k0) ⟨⟨hx, hk0⟩, SLx, hb, Fr.refl _ _⟩ ?_
  rintro ⟨y, k⟩ t hp ⟨hy, hR⟩ ⟨hB, hF⟩
  simp only at hy hR
  first | simp only [updS] | simp only [updL, Nat.reduceAdd]
  obtain ⟨z, hz1, hz2⟩ := H.inn y hy
  rcases hR.split with ⟨g1, g2⟩ | ⟨z', k', g1, g2, g3, g4⟩
  · repeat (first | refine S0 ?_ | refine S1 ?_ | refine S2 ?_ | refine S4 ?_ | refine S5 ?_ | refine S6 ?_ | refine S7 ?_ | refine S8 ?_ | refine S10 ?_ | refine S11 ?_ | refine S13 ?_ | refine S15 ?_ | refine S16 ?_ | refine S19 ?_ | refine S20 ?_ | refine S25 ?_ | refine S26 ?_ | refine S27 ?_ | refine S29 ?_ | refine S46 ?_)
    subst g2
    exact ⟨.inr rfl, _, ⟨_, rfl, rfl⟩, rfl, hB, hF⟩
  · have hz : js.getD y 0 ≠ (y : Int) := by omega
    repeat (first | refine S0 ?_ | refine S1 ?_ | refine S2 ?_ | refine S4 ?_ | refine S5 ?_ | refine S6 ?_ | refine S7 ?_ | refine S8 ?_ | refine S10 ?_ | refine S11 ?_ | refine S13 ?_ | refine S15 ?_ | refine S16 ?_ | refine S19 ?_ | refine S20 ?_ | refine S25 ?_ | refine S26 ?_ | refine S27 ?_ | refine S29 ?_ | refine S46 ?_)
    rw [g1]
    exact ⟨(z', k'), ⟨by simp only; omega, g3⟩, SLx, ⟨hB, hF⟩, by simp only; omega⟩
end Go.Proofs.Ythacglggkgmbhaa

/- timbref1.Joined: Join. No condition of its own. -/
set_option linter.unusedVariables false
set_option linter.unusedSimpArgs false
namespace Go.Proofs.Ythacglggkgmbhaa
open Go.RowKit

set_option maxHeartbeats 4000000 in
set_option maxRecDepth 100000 in
theorem join_e {js : List Int} {n : Nat} {r : Nat → Nat} (H : Uf js n r) (hn : n ≤ 1000000) {x y tk : Nat} (hx : x < n) (hy : y < n) {h : HP} (hb : h.blk tk = some (ints js)) : SChE Try.prog 19 [.ref tk 0 1 n, pint x, pint y] h (fun _ h' => h'.blk tk = some (ints (js.set (r x) (r y : Int))) ∧ Fr [tk] h h') := by
  have hrx := (H.rt x hx).1
  have hl := H.len
  refine SChE.go {} tok mixed Try.func19 rfl rfl Try.ntmps19 rfl rfl (by kernel_rfl) (fun hw => ?_)
  first | simp only [updS] | simp only [updL, Nat.reduceAdd]
  have htk := hw.lt hb
  repeat (first | refine S0 ?_ | refine S2 ?_ | refine S19 ?_ | refine S27 ?_ | refine S65 ?_)
  refine Scalle (args := [.ref tk 0 1 n, pint x]) (at_e H hn hx hb) ?_
  rintro v h1 ⟨rfl, hb1, hF1⟩
  repeat (first | refine S0 ?_ | refine S2 ?_ | refine S19 ?_ | refine S27 ?_ | refine S65 ?_)
  refine Scalle (args := [.ref tk 0 1 n, pint y]) (at_e H hn hy hb1) ?_
  rintro v h2 ⟨rfl, hb2, hF2⟩
  repeat (first | refine S0 ?_ | refine S2 ?_ | refine S19 ?_ | refine S27 ?_ | refine S65 ?_)
  have F : Fr [tk] h h2 := ((Fr.refl [tk] h).trans hF1 (fun t ht => absurd ht (by simp))).trans hF2 (fun t ht => absurd ht (by simp))
  exact ⟨.inl rfl, _, rfl, HP.set_same _ _ _, F.set _ (.inl (by simp))⟩
end Go.Proofs.Ythacglggkgmbhaa

/- slices.IndexFunc over rows of the caller's own. No condition of its own. -/
set_option linter.unusedVariables false
set_option linter.unusedSimpArgs false
namespace Go.Proofs.Ythacglggkgmbhaa
open Go.RowKit

set_option maxHeartbeats 16000000 in
set_option maxRecDepth 100000 in
theorem ixown_e {K T : Nat} {tk : Nat → Nat} {rows : Nat → List Int} {f : FuncId} {cap : List PV} (q : Nat → Bool) (hm : K ≤ 1000000) {h : HP} (R : RowsI K K T tk rows h)
    (hcl : ∀ j, j < K → ∀ h', RowsI K K T tk rows h' → SChE Try.prog f (.ref (tk j) 0 1 (rows j).length :: cap) h' (fun r' h2 => r' = .sc (.bool (q j)) ∧ Fr [] h' h2)) :
    SChE Try.prog 20 [.ref T 0 1 K, .clo f cap] h (fun r' h' => ((r' = pint (-1) ∧ ∀ j, j < K → q j = false) ∨ ∃ j : Nat, j < K ∧ r' = pint j ∧ q j = true ∧ ∀ j', j' < j → q j' = false) ∧ Fr [] h h') := by
  refine SChE.go {} tok mixed Try.func20 rfl rfl Try.ntmps20 rfl rfl (by kernel_rfl) (fun hw => ?_)
  first | simp only [updS] | simp only [updL, Nat.reduceAdd]
  repeat (first | refine S0 ?_ | refine S1 ?_ | refine S2 ?_ | refine S4 ?_ | refine S5 ?_ | refine S6 ?_ | refine S7 ?_ | refine S8 ?_ | refine S9 ?_ | refine S10 ?_ | refine S11 ?_ | refine S12 ?_ | refine S13 ?_ | refine S15 ?_ | refine S16 ?_ | refine S19 ?_ | refine S20 ?_ | refine S21 ?_ | refine S22 ?_ | refine S24 ?_ | refine S27 ?_)
  refine CW.loopS (fun i : Nat => i ≤ K ∧ ∀ j, j < i → q j = false) (fun i => [(0, .ref T 0 1 K), (1, .clo f cap), (7, pint K), (8, pint i)]) (fun _ h' => Fr [] h h') (fun i => K - i) 0 ⟨⟨Nat.zero_le _, fun j hj => absurd hj (Nat.not_lt_zero _)⟩, SLx, Fr.refl _ _⟩ ?_
  rintro i t hp ⟨hi, hn⟩ hf
  first | simp only [updS] | simp only [updL, Nat.reduceAdd]
  have R2 := R.fr hf (by simp) (fun _ _ => by simp)
  by_cases hi2 : i < K
  · have hc := hcl i hi2 hp R2
    have b0 := R2.out
    repeat (first | refine S0 ?_ | refine S1 ?_ | refine S2 ?_ | refine S4 ?_ | refine S5 ?_ | refine S6 ?_ | refine S7 ?_ | refine S8 ?_ | refine S9 ?_ | refine S10 ?_ | refine S11 ?_ | refine S12 ?_ | refine S13 ?_ | refine S15 ?_ | refine S16 ?_ | refine S19 ?_ | refine S20 ?_ | refine S21 ?_ | refine S22 ?_ | refine S24 ?_ | refine S27 ?_)
    rw [show 0 + (i : Int).toNat * 1 = i by simp]
    refine AW.ldm EVx (by first | exact Or.inl rfl | exact Or.inr ⟨rfl, HP.tok_even _⟩ | exact Or.inr (Or.inl ⟨rfl, HP.tok_even _⟩) | exact Or.inr (Or.inr ⟨rfl, HP.tok_odd _⟩) | exact Or.inr (Or.inl rfl) | exact Or.inr (Or.inr (Or.inl rfl)) | exact Or.inr (Or.inr (Or.inr (Or.inl ⟨rfl, HP.tok_odd _⟩))) | exact Or.inr (Or.inr (Or.inr (Or.inr ⟨rfl, HP.tok_even _⟩))) | exact Or.inr (Or.inr (Or.inr (Or.inr ⟨rfl, by assumption⟩))) | exact Or.inr ⟨rfl, by assumption⟩ | exact Or.inr (Or.inl ⟨rfl, by assumption⟩) | exact Or.inr (Or.inr ⟨rfl, by assumption⟩) | exact Or.inr (Or.inr (Or.inr (Or.inl ⟨rfl, by assumption⟩))) | exact Or.inr (Or.inr (Or.inl ⟨rfl, HP.tok_odd _⟩)) | exact Or.inr (Or.inr (Or.inl ⟨rfl, by assumption⟩)) | exact Or.inr (Or.inr (Or.inr rfl)) | exact Or.inr (Or.inr rfl) | exact Or.inr rfl) rfl b0 (outI_get hi2 hi2) ?_
    repeat (first | refine S0 ?_ | refine S1 ?_ | refine S2 ?_ | refine S4 ?_ | refine S5 ?_ | refine S6 ?_ | refine S7 ?_ | refine S8 ?_ | refine S9 ?_ | refine S10 ?_ | refine S11 ?_ | refine S12 ?_ | refine S13 ?_ | refine S15 ?_ | refine S16 ?_ | refine S19 ?_ | refine S20 ?_ | refine S21 ?_ | refine S22 ?_ | refine S24 ?_ | refine S27 ?_)
    refine AW.callve (f := f) (cap := cap) (args := .ref (tk i) 0 1 (rows i).length :: cap) rfl rfl rfl hc ?_
    rintro r' h' ⟨rfl, hf'⟩
    by_cases hb : q i = true
    · rw [hb]
      repeat (first | refine S0 ?_ | refine S1 ?_ | refine S2 ?_ | refine S4 ?_ | refine S5 ?_ | refine S6 ?_ | refine S7 ?_ | refine S8 ?_ | refine S9 ?_ | refine S10 ?_ | refine S11 ?_ | refine S12 ?_ | refine S13 ?_ | refine S15 ?_ | refine S16 ?_ | refine S19 ?_ | refine S20 ?_ | refine S21 ?_ | refine S22 ?_ | refine S24 ?_ | refine S27 ?_)
      exact ⟨.inr rfl, _, ⟨_, rfl, rfl⟩, .inr ⟨i, hi2, rfl, hb, hn⟩, hf.trans hf' (by simp)⟩
    · have hb : q i = false := by simpa using hb
      rw [hb]
      repeat (first | refine S0 ?_ | refine S1 ?_ | refine S2 ?_ | refine S4 ?_ | refine S5 ?_ | refine S6 ?_ | refine S7 ?_ | refine S8 ?_ | refine S9 ?_ | refine S10 ?_ | refine S11 ?_ | refine S12 ?_ | refine S13 ?_ | refine S15 ?_ | refine S16 ?_ | refine S19 ?_ | refine S20 ?_ | refine S21 ?_ | refine S22 ?_ | refine S24 ?_ | refine S27 ?_)
      exact ⟨i + 1, ⟨hi2, fun j hj => by
        by_cases e : j = i
        · rw [e]; exact hb
        · exact hn j (by omega)⟩, SLx, hf.trans hf' (by simp), by omega⟩
  · obtain rfl : i = K := by omega
    repeat (first | refine S0 ?_ | refine S1 ?_ | refine S2 ?_ | refine S4 ?_ | refine S5 ?_ | refine S6 ?_ | refine S7 ?_ | refine S8 ?_ | refine S9 ?_ | refine S10 ?_ | refine S11 ?_ | refine S12 ?_ | refine S13 ?_ | refine S15 ?_ | refine S16 ?_ | refine S19 ?_ | refine S20 ?_ | refine S21 ?_ | refine S22 ?_ | refine S24 ?_ | refine S27 ?_)
    exact ⟨.inr rfl, _, ⟨_, rfl, rfl⟩, .inl ⟨rfl, hn⟩, hf⟩
end Go.Proofs.Ythacglggkgmbhaa

/- timbref1.Row and timbref1.Points as slices of the caller's own. No condition of its own. -/
set_option linter.unusedVariables false
set_option linter.unusedSimpArgs false
namespace Go.Proofs.Ythacglggkgmbhaa
open Go.RowKit

set_option maxHeartbeats 1000000 in
set_option maxRecDepth 100000 in
theorem rowO_o (n : Nat) (hn : n ≤ 1000) : SCo Try.prog 25 [pint n] 1 n (ints (tabN n id)) := by
  refine SCo.go {} tok mixed Try.func25 rfl rfl Try.ntmps25 rfl rfl (by kernel_rfl) ?_
  first | simp only [updS] | simp only [updL, Nat.reduceAdd]
  repeat (first | refine S0 ?_ | refine S1 ?_ | refine S2 ?_ | refine S4 ?_ | refine S5 ?_ | refine S6 ?_ | refine S7 ?_ | refine S8 ?_ | refine S10 ?_ | refine S11 ?_ | refine S13 ?_ | refine S15 ?_ | refine S16 ?_ | refine S19 ?_ | refine S20 ?_ | refine S21 ?_ | refine S22 ?_ | refine S24 ?_ | refine S27 ?_ | refine S65 ?_ | refine S71 ?_)
  refine CW.loopS (fun k : Nat => k ≤ n) (fun k => [(3, .ref 0 0 1 n), (8, pint n), (9, pint k)]) (fun k h => h.blk 0 = some (ints (fillT n k (fun i => ((id i : Nat) : Int))))) (fun k => n - k) 0 ⟨by omega, SLx, by rw [fillT_zero]; exact HBx⟩ ?_
  rintro k t h hk B
  first | simp only [updS] | simp only [updL, Nat.reduceAdd]
  have hl := fillT_len n k (fun i => ((id i : Nat) : Int))
  by_cases hk2 : k < n
  · have hs : (fillT n k (fun i => ((id i : Nat) : Int))).set k (k : Int) = fillT n (k + 1) (fun i => ((id i : Nat) : Int)) := fillT_set hk2
    repeat (first | refine S0 ?_ | refine S1 ?_ | refine S2 ?_ | refine S4 ?_ | refine S5 ?_ | refine S6 ?_ | refine S7 ?_ | refine S8 ?_ | refine S10 ?_ | refine S11 ?_ | refine S13 ?_ | refine S15 ?_ | refine S16 ?_ | refine S19 ?_ | refine S20 ?_ | refine S21 ?_ | refine S22 ?_ | refine S24 ?_ | refine S27 ?_ | refine S65 ?_ | refine S71 ?_)
    rw [hs]
    exact ⟨k + 1, by omega, SLx, (by (try dsimp only); repeat' (first | exact HBx | exact SBx | refine And.intro ?_ ?_)), by omega⟩
  · obtain rfl : k = n := by omega
    rw [fillT_tab] at B
    repeat (first | refine S0 ?_ | refine S1 ?_ | refine S2 ?_ | refine S4 ?_ | refine S5 ?_ | refine S6 ?_ | refine S7 ?_ | refine S8 ?_ | refine S10 ?_ | refine S11 ?_ | refine S13 ?_ | refine S15 ?_ | refine S16 ?_ | refine S19 ?_ | refine S20 ?_ | refine S21 ?_ | refine S22 ?_ | refine S24 ?_ | refine S27 ?_ | refine S65 ?_ | refine S71 ?_)
    have := Ow.ints (ys := tabN k id) B (tab_len _ _).symm rfl
    rw [tab_len] at this
    exact ⟨.inr rfl, this⟩
theorem points_o (n : Nat) (hn : n ≤ 1000) : SCo Try.prog 18 [pint n] 1 n (ints (tabN n id)) := by
  have k := rowO_o n hn
  refine SCo.go {} tok mixed Try.func18 rfl rfl Try.ntmps18 rfl rfl (by kernel_rfl) ?_
  first | simp only [updS] | simp only [updL, Nat.reduceAdd]
  repeat (first | refine S0 ?_ | refine S1 ?_ | refine S2 ?_ | refine S4 ?_ | refine S5 ?_ | refine S6 ?_ | refine S7 ?_ | refine S8 ?_ | refine S10 ?_ | refine S11 ?_ | refine S13 ?_ | refine S15 ?_ | refine S16 ?_ | refine S19 ?_ | refine S20 ?_ | refine S21 ?_ | refine S22 ?_ | refine S24 ?_ | refine S27 ?_ | refine S65 ?_ | refine S71 ?_)
  refine Scallo (args := [pint n]) k ?_
  repeat (first | refine S0 ?_ | refine S1 ?_ | refine S2 ?_ | refine S4 ?_ | refine S5 ?_ | refine S6 ?_ | refine S7 ?_ | refine S8 ?_ | refine S10 ?_ | refine S11 ?_ | refine S13 ?_ | refine S15 ?_ | refine S16 ?_ | refine S19 ?_ | refine S20 ?_ | refine S21 ?_ | refine S22 ?_ | refine S24 ?_ | refine S27 ?_ | refine S65 ?_ | refine S71 ?_)
  have hB : (H0.add false (ints (tabN n id))).blk 0 = some (ints (tabN n id)) := rfl
  have := Ow.ints (ys := tabN n id) hB (tab_len _ _).symm rfl
  rw [tab_len] at this
  exact ⟨.inr rfl, this⟩
end Go.Proofs.Ythacglggkgmbhaa
