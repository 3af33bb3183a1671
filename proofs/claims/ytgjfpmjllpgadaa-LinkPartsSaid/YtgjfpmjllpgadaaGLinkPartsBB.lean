/- slices.IndexFunc over rows of the caller's own. No condition of its own. -/
import Derived.Test.YtgjfpmjllpgadaaGLinkPartsBA
import Derived.Test.YtgjfpmjllpgadaaGLinkPartsAU
import Derived.Test.YtgjfpmjllpgadaaGLinkPartsAW
set_option linter.unusedVariables false
set_option linter.unusedSimpArgs false
namespace Go.Proofs.Ytgjfpmjllpgadaa
open Go.RowKit

set_option maxHeartbeats 16000000 in
set_option maxRecDepth 100000 in
theorem ixown_e {K T : Nat} {tk : Nat → Nat} {rows : Nat → List Int} {f : FuncId} {cap : List PV} (q : Nat → Bool) (hm : K ≤ 1000000) {h : HP} (R : RowsI K K T tk rows h)
    (hcl : ∀ j, j < K → ∀ h', RowsI K K T tk rows h' → SChE Try.prog f (.ref (tk j) 0 1 (rows j).length :: cap) h' (fun r' h2 => r' = .sc (.bool (q j)) ∧ Fr [] h' h2)) :
    SChE Try.prog 92 [.ref T 0 1 K, .clo f cap] h (fun r' h' => ((r' = pint (-1) ∧ ∀ j, j < K → q j = false) ∨ ∃ j : Nat, j < K ∧ r' = pint j ∧ q j = true ∧ ∀ j', j' < j → q j' = false) ∧ Fr [] h h') := by
  refine SChE.go {} tok mixed Try.func92 rfl rfl Try.ntmps92 rfl rfl (by kernel_rfl) (fun hw => ?_)
  first | simp only [updS] | simp only [updL, Nat.reduceAdd]
  repeat (first | refine S0 ?_ | refine S1 ?_ | refine S2 ?_ | refine S4 ?_ | refine S5 ?_ | refine S6 ?_ | refine S7 ?_ | refine S8 ?_ | refine S9 ?_ | refine S10 ?_ | refine S11 ?_ | refine S12 ?_ | refine S13 ?_ | refine S15 ?_ | refine S16 ?_ | refine S19 ?_ | refine S20 ?_ | refine S21 ?_ | refine S22 ?_ | refine S24 ?_ | refine S27 ?_)
  refine CW.loopS (fun i : Nat => i ≤ K ∧ ∀ j, j < i → q j = false) (fun i => [(0, .ref T 0 1 K), (1, .clo f cap), (7, pint K), (8, pint i)]) (fun _ h' => Fr [] h h') (fun i => K - i) 0 ⟨⟨Nat.zero_le _, fun j hj => absurd hj (Nat.not_lt_zero _)⟩, SLx, Fr.refl _ _⟩ ?_
  rintro i t hp ⟨hi, hn⟩ hf
  first | simp only [updS] | simp only [updL, Nat.reduceAdd]
  have R2 := R.fr hf (by simp) (fun _ _ => by simp)
  by_cases hi2 : i < K
  · have hc := hcl i hi2 hp R2
    have b0 := R2.out
    repeat (first | refine S0 ?_ | refine S1 ?_ | refine S2 ?_ | refine S4 ?_ | refine S5 ?_ | refine S6 ?_ | refine S7 ?_ | refine S8 ?_ | refine S9 ?_ | refine S10 ?_ | refine S11 ?_ | refine S12 ?_ | refine S13 ?_ | refine S15 ?_ | refine S16 ?_ | refine S19 ?_ | refine S20 ?_ | refine S21 ?_ | refine S22 ?_ | refine S24 ?_ | refine S27 ?_)
    rw [show 0 + (i : Int).toNat * 1 = i by simp]
    refine AW.ldm EVx (by first | exact Or.inl rfl | exact Or.inr ⟨rfl, HP.tok_even _⟩ | exact Or.inr (Or.inl ⟨rfl, HP.tok_even _⟩) | exact Or.inr (Or.inr ⟨rfl, HP.tok_odd _⟩) | exact Or.inr (Or.inl rfl) | exact Or.inr (Or.inr (Or.inl rfl)) | exact Or.inr (Or.inr (Or.inr (Or.inl ⟨rfl, HP.tok_odd _⟩))) | exact Or.inr (Or.inr (Or.inr (Or.inr ⟨rfl, HP.tok_even _⟩))) | exact Or.inr (Or.inr (Or.inr (Or.inr ⟨rfl, by assumption⟩))) | exact Or.inr ⟨rfl, by assumption⟩ | exact Or.inr (Or.inl ⟨rfl, by assumption⟩) | exact Or.inr (Or.inr ⟨rfl, by assumption⟩) | exact Or.inr (Or.inr (Or.inr (Or.inl ⟨rfl, by assumption⟩))) | exact Or.inr (Or.inr (Or.inl ⟨rfl, HP.tok_odd _⟩)) | exact Or.inr (Or.inr (Or.inl ⟨rfl, by assumption⟩)) | exact Or.inr (Or.inr (Or.inr rfl)) | exact Or.inr (Or.inr rfl) | exact Or.inr rfl) rfl b0 (outI_get hi2 hi2) ?_
    repeat (first | refine S0 ?_ | refine S1 ?_ | refine S2 ?_ | refine S4 ?_ | refine S5 ?_ | refine S6 ?_ | refine S7 ?_ | refine S8 ?_ | refine S9 ?_ | refine S10 ?_ | refine S11 ?_ | refine S12 ?_ | refine S13 ?_ | refine S15 ?_ | refine S16 ?_ | refine S19 ?_ | refine S20 ?_ | refine S21 ?_ | refine S22 ?_ | refine S24 ?_ | refine S27 ?_)
    refine AW.callve (f := f) (cap := cap) (args := .ref (tk i) 0 1 (rows i).length :: cap) rfl rfl rfl hc ?_
    rintro r' h' ⟨rfl, hf'⟩
    by_cases hb : q i = true
    · rw [hb]
      repeat (first | refine S0 ?_ | refine S1 ?_ | refine S2 ?_ | refine S4 ?_ | refine S5 ?_ | refine S6 ?_ | refine S7 ?_ | refine S8 ?_ | refine S9 ?_ | refine S10 ?_ | refine S11 ?_ | refine S12 ?_ | refine S13 ?_ | refine S15 ?_ | refine S16 ?_ | refine S19 ?_ | refine S20 ?_ | refine S21 ?_ | refine S22 ?_ | refine S24 ?_ | refine S27 ?_)
      exact ⟨.inr rfl, _, ⟨_, rfl, rfl⟩, .inr ⟨i, hi2, rfl, hb, hn⟩, hf.trans hf' (by simp)⟩
    · have hb : q i = false := by simpa using hb
      rw [hb]
      repeat (first | refine S0 ?_ | refine S1 ?_ | refine S2 ?_ | refine S4 ?_ | refine S5 ?_ | refine S6 ?_ | refine S7 ?_ | refine S8 ?_ | refine S9 ?_ | refine S10 ?_ | refine S11 ?_ | refine S12 ?_ | refine S13 ?_ | refine S15 ?_ | refine S16 ?_ | refine S19 ?_ | refine S20 ?_ | refine S21 ?_ | refine S22 ?_ | refine S24 ?_ | refine S27 ?_)
      exact ⟨i + 1, ⟨hi2, fun j hj => by
        by_cases e : j = i
        · rw [e]; exact hb
        · exact hn j (by omega)⟩, SLx, hf.trans hf' (by simp), by omega⟩
  · obtain rfl : i = K := by omega
    repeat (first | refine S0 ?_ | refine S1 ?_ | refine S2 ?_ | refine S4 ?_ | refine S5 ?_ | refine S6 ?_ | refine S7 ?_ | refine S8 ?_ | refine S9 ?_ | refine S10 ?_ | refine S11 ?_ | refine S12 ?_ | refine S13 ?_ | refine S15 ?_ | refine S16 ?_ | refine S19 ?_ | refine S20 ?_ | refine S21 ?_ | refine S22 ?_ | refine S24 ?_ | refine S27 ?_)
    exact ⟨.inr rfl, _, ⟨_, rfl, rfl⟩, .inl ⟨rfl, hn⟩, hf⟩
end Go.Proofs.Ytgjfpmjllpgadaa
