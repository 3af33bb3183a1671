/- timbref1.Joined: At. No condition of its own. -/
import Derived.Test.YtgjfpmjllpgadaaGLinkPartsAA
import Derived.Test.YtgjfpmjllpgadaaGLinkPartsAU
import Derived.Test.YtgjfpmjllpgadaaGLinkPartsAW
set_option linter.unusedVariables false
set_option linter.unusedSimpArgs false
namespace Go.Proofs.Ytgjfpmjllpgadaa
open Go.RowKit

theorem RN.split {j : List Int} {y ρ k : Nat} (h : RN j y ρ k) : (j.getD y 0 = (y : Int) ∧ y = ρ) ∨ ∃ (z k' : Nat), j.getD y 0 = (z : Int) ∧ z ≠ y ∧ RN j z ρ k' ∧ k = k' + 1 := by
  cases h with
  | root h => exact .inl ⟨h, rfl⟩
  | step h1 h2 h3 => exact .inr ⟨_, _, h1, h2, h3, rfl⟩
set_option maxHeartbeats 4000000 in
set_option maxRecDepth 100000 in
theorem at_s {js : List Int} {n : Nat} {r : Nat → Nat} (H : Uf js n r) (hn : n ≤ 1000000) {x : Nat} (hx : x < n) : SC Try.prog 94 [pli js, pint x] (pint (r x)) := by
  obtain ⟨hr, k0, hk0⟩ := H.rt x hx
  have hl := H.len
  obtain ⟨ρ, hρ⟩ : ∃ ρ, ρ = r x := ⟨_, rfl⟩
  rw [← hρ] at hk0 ⊢
  refine SC.go {} tok mixed Try.func94 rfl rfl Try.ntmps94 rfl rfl (by kernel_rfl) ?_
  first | simp only [updS] | simp only [updL, Nat.reduceAdd]
  repeat (first | refine S0 ?_ | refine S1 ?_ | refine S2 ?_ | refine S4 ?_ | refine S5 ?_ | refine S6 ?_ | refine S7 ?_ | refine S8 ?_ | refine S10 ?_ | refine S11 ?_ | refine S13 ?_ | refine S15 ?_ | refine S16 ?_ | refine S19 ?_ | refine S20 ?_ | refine S25 ?_ | refine S26 ?_ | refine S27 ?_ | refine S29 ?_ | refine S46 ?_)
  refine CW.loopS (fun i : Nat × Nat => i.1 < n ∧ RN js i.1 ρ i.2) (fun i => [(0, pli js), (1, pint i.1)]) (fun _ _ => True) (fun i => i.2) (x, k0) ⟨⟨hx, hk0⟩, SLx, trivial⟩ ?_
  rintro ⟨y, k⟩ t hp ⟨hy, hR⟩ _
  simp only at hy hR
  first | simp only [updS] | simp only [updL, Nat.reduceAdd]
  obtain ⟨z, hz1, hz2⟩ := H.inn y hy
  rcases hR.split with ⟨g1, g2⟩ | ⟨z', k', g1, g2, g3, g4⟩
  · repeat (first | refine S0 ?_ | refine S1 ?_ | refine S2 ?_ | refine S4 ?_ | refine S5 ?_ | refine S6 ?_ | refine S7 ?_ | refine S8 ?_ | refine S10 ?_ | refine S11 ?_ | refine S13 ?_ | refine S15 ?_ | refine S16 ?_ | refine S19 ?_ | refine S20 ?_ | refine S25 ?_ | refine S26 ?_ | refine S27 ?_ | refine S29 ?_ | refine S46 ?_)
    subst g2
    exact ⟨.inr rfl, .cl rfl⟩
  · have hz : js.getD y 0 ≠ (y : Int) := by omega
    repeat (first | refine S0 ?_ | refine S1 ?_ | refine S2 ?_ | refine S4 ?_ | refine S5 ?_ | refine S6 ?_ | refine S7 ?_ | refine S8 ?_ | refine S10 ?_ | refine S11 ?_ | refine S13 ?_ | refine S15 ?_ | refine S16 ?_ | refine S19 ?_ | refine S20 ?_ | refine S25 ?_ | refine S26 ?_ | refine S27 ?_ | refine S29 ?_ | refine S46 ?_)
    rw [g1]
    exact ⟨(z', k'), ⟨by simp only; omega, g3⟩, SLx, trivial, by simp only; omega⟩
set_option maxHeartbeats 4000000 in
set_option maxRecDepth 100000 in
theorem at_e {js : List Int} {n : Nat} {r : Nat → Nat} (H : Uf js n r) (hn : n ≤ 1000000) {x tk : Nat} (hx : x < n) {h : HP} (hb : h.blk tk = some (ints js)) : SChE Try.prog 94 [.ref tk 0 1 n, pint x] h (fun v h' => v = pint (r x) ∧ h'.blk tk = some (ints js) ∧ Fr [] h h') := by
  obtain ⟨hr, k0, hk0⟩ := H.rt x hx
  have hl := H.len
  obtain ⟨ρ, hρ⟩ : ∃ ρ, ρ = r x := ⟨_, rfl⟩
  rw [← hρ] at hk0 ⊢
  refine SChE.go {} tok mixed Try.func94 rfl rfl Try.ntmps94 rfl rfl (by kernel_rfl) (fun hw => ?_)
  first | simp only [updS] | simp only [updL, Nat.reduceAdd]
  have htk := hw.lt hb
  repeat (first | refine S0 ?_ | refine S1 ?_ | refine S2 ?_ | refine S4 ?_ | refine S5 ?_ | refine S6 ?_ | refine S7 ?_ | refine S8 ?_ | refine S10 ?_ | refine S11 ?_ | refine S13 ?_ | refine S15 ?_ | refine S16 ?_ | refine S19 ?_ | refine S20 ?_ | refine S25 ?_ | refine S26 ?_ | refine S27 ?_ | refine S29 ?_ | refine S46 ?_)
  refine CW.loopS (fun i : Nat × Nat => i.1 < n ∧ RN js i.1 ρ i.2) (fun i => [(0, .ref tk 0 1 n), (1, pint i.1)]) (fun _ hp => hp.blk tk = some (ints js) ∧ Fr [] h hp) (fun i => i.2) (x, k0) ⟨⟨hx, hk0⟩, SLx, hb, Fr.refl _ _⟩ ?_
  rintro ⟨y, k⟩ t hp ⟨hy, hR⟩ ⟨hB, hF⟩
  simp only at hy hR
  first | simp only [updS] | simp only [updL, Nat.reduceAdd]
  obtain ⟨z, hz1, hz2⟩ := H.inn y hy
  rcases hR.split with ⟨g1, g2⟩ | ⟨z', k', g1, g2, g3, g4⟩
  · repeat (first | refine S0 ?_ | refine S1 ?_ | refine S2 ?_ | refine S4 ?_ | refine S5 ?_ | refine S6 ?_ | refine S7 ?_ | refine S8 ?_ | refine S10 ?_ | refine S11 ?_ | refine S13 ?_ | refine S15 ?_ | refine S16 ?_ | refine S19 ?_ | refine S20 ?_ | refine S25 ?_ | refine S26 ?_ | refine S27 ?_ | refine S29 ?_ | refine S46 ?_)
    subst g2
    exact ⟨.inr rfl, _, ⟨_, rfl, rfl⟩, rfl, hB, hF⟩
  · have hz : js.getD y 0 ≠ (y : Int) := by omega
    repeat (first | refine S0 ?_ | refine S1 ?_ | refine S2 ?_ | refine S4 ?_ | refine S5 ?_ | refine S6 ?_ | refine S7 ?_ | refine S8 ?_ | refine S10 ?_ | refine S11 ?_ | refine S13 ?_ | refine S15 ?_ | refine S16 ?_ | refine S19 ?_ | refine S20 ?_ | refine S25 ?_ | refine S26 ?_ | refine S27 ?_ | refine S29 ?_ | refine S46 ?_)
    rw [g1]
    exact ⟨(z', k'), ⟨by simp only; omega, g3⟩, SLx, ⟨hB, hF⟩, by simp only; omega⟩
end Go.Proofs.Ytgjfpmjllpgadaa

/- timbref1.Joined: Join. No condition of its own. -/
set_option linter.unusedVariables false
set_option linter.unusedSimpArgs false
namespace Go.Proofs.Ytgjfpmjllpgadaa
open Go.RowKit

set_option maxHeartbeats 4000000 in
set_option maxRecDepth 100000 in
theorem join_e {js : List Int} {n : Nat} {r : Nat → Nat} (H : Uf js n r) (hn : n ≤ 1000000) {x y tk : Nat} (hx : x < n) (hy : y < n) {h : HP} (hb : h.blk tk = some (ints js)) : SChE Try.prog 91 [.ref tk 0 1 n, pint x, pint y] h (fun _ h' => h'.blk tk = some (ints (js.set (r x) (r y : Int))) ∧ Fr [tk] h h') := by
  have hrx := (H.rt x hx).1
  have hl := H.len
  refine SChE.go {} tok mixed Try.func91 rfl rfl Try.ntmps91 rfl rfl (by kernel_rfl) (fun hw => ?_)
  first | simp only [updS] | simp only [updL, Nat.reduceAdd]
  have htk := hw.lt hb
  repeat (first | refine S0 ?_ | refine S2 ?_ | refine S19 ?_ | refine S27 ?_ | refine S65 ?_)
  refine Scalle (args := [.ref tk 0 1 n, pint x]) (at_e H hn hx hb) ?_
  rintro v h1 ⟨rfl, hb1, hF1⟩
  repeat (first | refine S0 ?_ | refine S2 ?_ | refine S19 ?_ | refine S27 ?_ | refine S65 ?_)
  refine Scalle (args := [.ref tk 0 1 n, pint y]) (at_e H hn hy hb1) ?_
  rintro v h2 ⟨rfl, hb2, hF2⟩
  repeat (first | refine S0 ?_ | refine S2 ?_ | refine S19 ?_ | refine S27 ?_ | refine S65 ?_)
  have F : Fr [tk] h h2 := ((Fr.refl [tk] h).trans hF1 (fun t ht => absurd ht (by simp))).trans hF2 (fun t ht => absurd ht (by simp))
  exact ⟨.inl rfl, _, rfl, HP.set_same _ _ _, F.set _ (.inl (by simp))⟩
end Go.Proofs.Ytgjfpmjllpgadaa

/- timbref1.Parts: its closure. No condition of its own. -/
set_option linter.unusedVariables false
set_option linter.unusedSimpArgs false
namespace Go.Proofs.Ytgjfpmjllpgadaa
open Go.RowKit

set_option maxHeartbeats 4000000 in
set_option maxRecDepth 100000 in
theorem parts1_e {js row : List Int} {n : Nat} {r : Nat → Nat} (H : Uf js n r) (hn : n ≤ 1000000) {i z tk : Nat} (hi : i < n) (hz : z < n) (hm : 1 ≤ row.length) (h0 : row.getD 0 0 = (z : Int)) {h : HP} (hb : h.blk tk = some (ints row)) :
    SChE Try.prog 93 [.ref tk 0 1 row.length, .lptr [pli js], .lptr [pint i]] h (fun v h' => v = .sc (.bool (decide (r z = r i))) ∧ Fr [] h h') := by
  have e : decide (r z = r i) = decide ((r z : Int) = (r i : Int)) := decide_eq_decide.2 ⟨fun e => by rw [e], fun e => by omega⟩
  rw [e]
  have h00 : row.getD (Int.toNat 0) 0 = (z : Int) := h0
  refine SChE.go {} tok mixed Try.func93 rfl rfl Try.ntmps93 rfl rfl (by kernel_rfl) (fun hw => ?_)
  first | simp only [updS] | simp only [updL, Nat.reduceAdd]
  have htk := hw.lt hb
  repeat (first | refine S0 ?_ | refine S1 ?_ | refine S2 ?_ | refine S3 ?_ | refine S7 ?_ | refine S8 ?_ | refine S19 ?_ | refine S20 ?_ | refine S26 ?_ | refine S27 ?_ | refine S28 ?_ | refine S46 ?_)
  rw [h00]
  refine Scall (args := [pli js, pint z]) (at_s H hn hz) ?_
  repeat (first | refine S0 ?_ | refine S1 ?_ | refine S2 ?_ | refine S3 ?_ | refine S7 ?_ | refine S8 ?_ | refine S19 ?_ | refine S20 ?_ | refine S26 ?_ | refine S27 ?_ | refine S28 ?_ | refine S46 ?_)
  refine Scall (args := [pli js, pint i]) (at_s H hn hi) ?_
  repeat (first | refine S0 ?_ | refine S1 ?_ | refine S2 ?_ | refine S3 ?_ | refine S7 ?_ | refine S8 ?_ | refine S19 ?_ | refine S20 ?_ | refine S26 ?_ | refine S27 ?_ | refine S28 ?_ | refine S46 ?_)
  exact ⟨.inr rfl, _, ⟨_, rfl, rfl⟩, rfl, Fr.refl _ _⟩
end Go.Proofs.Ytgjfpmjllpgadaa
