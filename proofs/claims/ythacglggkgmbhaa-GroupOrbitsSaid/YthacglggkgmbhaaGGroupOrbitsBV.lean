/- slices.Sort at a slice of at most twelve ints of the caller's own. No condition of its own. -/
import Derived.Test.YthacglggkgmbhaaGGroupOrbitsAS
import Derived.Test.YthacglggkgmbhaaGGroupOrbitsAU
import Derived.Test.YthacglggkgmbhaaGGroupOrbitsBU
import Derived.Test.YthacglggkgmbhaaGGroupOrbitsBP
import Derived.Test.YthacglggkgmbhaaGGroupOrbitsBT
set_option linter.unusedVariables false
set_option linter.unusedSimpArgs false
namespace Go.Proofs.Ythacglggkgmbhaa
open Go.RowKit

/-- the first b numbers ascend -/
def Asc (zs : List Int) (b : Nat) : Prop := ∀ p q, p < q → q < b → zs.getD p 0 ≤ zs.getD q 0
theorem Asc.pw {zs : List Int} (h : Asc zs zs.length) : zs.Pairwise (· ≤ ·) := by
  rw [List.pairwise_iff_getElem]
  intro i j hi hj hij
  have := h i j hij hj
  rwa [getD_lt 0 hi, getD_lt 0 hj] at this
/-- the first b numbers but the j-th ascend, and no later one is below it -/
def AscB (zs : List Int) (b j : Nat) : Prop := ∀ p q, p < q → q < b → q ≠ j → zs.getD p 0 ≤ zs.getD q 0
def swp (zs : List Int) (j : Nat) : List Int := (zs.set j (zs.getD (j - 1) 0)).set (j - 1) (zs.getD j 0)
theorem swp_len (zs : List Int) (j : Nat) : (swp zs j).length = zs.length := by simp [swp]
theorem swp_get {zs : List Int} {j : Nat} (hj : 1 ≤ j) (hl : j < zs.length) (p : Nat) : (swp zs j).getD p 0 = if p = j - 1 then zs.getD j 0 else if p = j then zs.getD (j - 1) 0 else zs.getD p 0 := by
  unfold swp
  by_cases h1 : p = j - 1
  · subst h1
    rw [if_pos rfl, getD_lt 0 (by simp; omega), List.getElem_set_self]
  · rw [if_neg h1]
    by_cases hp : p < zs.length
    · rw [getD_lt 0 (by simp; omega), List.getElem_set_ne (by omega)]
      by_cases h2 : p = j
      · subst h2
        rw [if_pos rfl, List.getElem_set_self]
      · rw [if_neg h2, List.getElem_set_ne (by omega), getD_lt 0 hp]
    · rw [if_neg (by omega)]
      simp [List.getD, show zs.length ≤ p by omega]
theorem swp_perm {zs : List Int} {j : Nat} (hj : 1 ≤ j) (hl : j < zs.length) : (swp zs j).Perm zs := by
  have e : zs = zs.take (j - 1) ++ (zs.getD (j - 1) 0 :: zs.getD j 0 :: zs.drop (j + 1)) := by
    rw [getD_lt 0 (show j - 1 < zs.length by omega), getD_lt 0 hl]
    have h1 : zs.drop (j - 1) = zs[j - 1] :: zs.drop j := by
      have := List.drop_eq_getElem_cons (show j - 1 < zs.length by omega)
      rwa [show j - 1 + 1 = j by omega] at this
    have h2 := List.drop_eq_getElem_cons hl
    rw [← h2, ← h1, List.take_append_drop]
  have e2 : swp zs j = zs.take (j - 1) ++ (zs.getD j 0 :: zs.getD (j - 1) 0 :: zs.drop (j + 1)) := by
    refine list_eq_getD (by simp [swp]; omega) (fun p hp => ?_)
    rw [swp_get hj hl]
    have hp : p < zs.length := by rwa [swp_len] at hp
    by_cases h1 : p < j - 1
    · rw [if_neg (by omega), if_neg (by omega)]
      simp only [List.getD, List.getElem?_append_left (show p < (zs.take (j - 1)).length by simp; omega), List.getElem?_take, if_pos h1]
    · have hle : (zs.take (j - 1)).length ≤ p := by simp; omega
      simp only [List.getD, List.getElem?_append_right hle]
      have hln : (zs.take (j - 1)).length = j - 1 := by simp; omega
      rw [hln]
      by_cases h2 : p = j - 1
      · subst h2; simp
      · rw [if_neg h2]
        by_cases h3 : p = j
        · subst h3
          rw [if_pos rfl, show p - (p - 1) = 1 by omega]; rfl
        · rw [if_neg h3, show p - (j - 1) = (p - (j + 1)) + 2 by omega]
          simp only [List.getElem?_cons_succ, List.getElem?_drop]
          rw [show j + 1 + (p - (j + 1)) = p by omega]
  rw [e2]
  conv => rhs; rw [e]
  exact (List.Perm.swap _ _ _).append_left _
theorem ascB_start {zs : List Int} {i : Nat} (h : Asc zs i) : AscB zs (i + 1) i := fun p q h1 h2 h3 => h p q h1 (by omega)
theorem ascB_end {zs : List Int} {i j : Nat} (h : AscB zs (i + 1) j) (hj : j = 0 ∨ zs.getD (j - 1) 0 ≤ zs.getD j 0) : Asc zs (i + 1) := fun p q h1 h2 => by
  by_cases hq : q = j
  · subst hq
    rcases hj with rfl | hj
    · omega
    · by_cases hp : p = q - 1
      · rw [hp]; exact hj
      · have := h p (q - 1) (by omega) (by omega) (by omega)
        omega
  · exact h p q h1 h2 hq
theorem ascB_swp {zs : List Int} {i j : Nat} (h : AscB zs (i + 1) j) (hj : 1 ≤ j) (hi : j ≤ i) (hl : i < zs.length) (hlt : zs.getD j 0 < zs.getD (j - 1) 0) : AscB (swp zs j) (i + 1) (j - 1) := fun p q h1 h2 h3 => by
  rw [swp_get hj (by omega), swp_get hj (by omega), if_neg h3]
  by_cases hq : q = j
  · subst hq
    rw [if_pos rfl]
    by_cases hp : p = q - 1
    · rw [if_pos hp]; omega
    · rw [if_neg hp, if_neg (by omega)]
      exact h p (q - 1) (by omega) (by omega) (by omega)
  · rw [if_neg hq]
    by_cases hp : p = j - 1
    · rw [if_pos hp]
      exact h j q (by omega) h2 hq
    · rw [if_neg hp]
      by_cases hp2 : p = j
      · rw [if_pos hp2]
        exact h (j - 1) q (by omega) h2 hq
      · rw [if_neg hp2]
        exact h p q h1 h2 hq

theorem isNaN_s (x : Int) : SC Try.prog 73 [pint x] (.sc (.bool false)) := by
  refine SC.go {} tok mixed Try.func73 rfl rfl Try.ntmps73 rfl rfl (by kernel_rfl) ?_
  first | simp only [updS] | simp only [updL, Nat.reduceAdd]
  repeat (first | refine S0 ?_ | refine S1 ?_ | refine S2 ?_ | refine S3 ?_ | refine S4 ?_ | refine S5 ?_ | refine S6 ?_ | refine S7 ?_ | refine S8 ?_ | refine S9 ?_ | refine S10 ?_ | refine S11 ?_ | refine S12 ?_ | refine S13 ?_ | refine S15 ?_ | refine S16 ?_ | refine S19 ?_ | refine S20 ?_ | refine S21 ?_ | refine S22 ?_ | refine S24 ?_ | refine S27 ?_ | refine S29 ?_ | refine S30 ?_ | refine S31 ?_ | refine S33 ?_ | refine S37 ?_ | refine S38 ?_ | refine S40 ?_ | refine S41 ?_ | refine S46 ?_ | refine S65 ?_)
  exact ⟨.inr rfl, .cl rfl⟩
theorem less_s (x y : Int) : SC Try.prog 63 [pint x, pint y] (.sc (.bool (decide (x < y)))) := by
  refine SC.go {} tok mixed Try.func63 rfl rfl Try.ntmps63 rfl rfl (by kernel_rfl) ?_
  first | simp only [updS] | simp only [updL, Nat.reduceAdd]
  repeat (first | refine S0 ?_ | refine S1 ?_ | refine S2 ?_ | refine S3 ?_ | refine S4 ?_ | refine S5 ?_ | refine S6 ?_ | refine S7 ?_ | refine S8 ?_ | refine S9 ?_ | refine S10 ?_ | refine S11 ?_ | refine S12 ?_ | refine S13 ?_ | refine S15 ?_ | refine S16 ?_ | refine S19 ?_ | refine S20 ?_ | refine S21 ?_ | refine S22 ?_ | refine S24 ?_ | refine S27 ?_ | refine S29 ?_ | refine S30 ?_ | refine S31 ?_ | refine S33 ?_ | refine S37 ?_ | refine S38 ?_ | refine S40 ?_ | refine S41 ?_ | refine S46 ?_ | refine S65 ?_)
  refine Scall (args := [pint x]) (isNaN_s x) ?_
  repeat (first | refine S0 ?_ | refine S1 ?_ | refine S2 ?_ | refine S3 ?_ | refine S4 ?_ | refine S5 ?_ | refine S6 ?_ | refine S7 ?_ | refine S8 ?_ | refine S9 ?_ | refine S10 ?_ | refine S11 ?_ | refine S12 ?_ | refine S13 ?_ | refine S15 ?_ | refine S16 ?_ | refine S19 ?_ | refine S20 ?_ | refine S21 ?_ | refine S22 ?_ | refine S24 ?_ | refine S27 ?_ | refine S29 ?_ | refine S30 ?_ | refine S31 ?_ | refine S33 ?_ | refine S37 ?_ | refine S38 ?_ | refine S40 ?_ | refine S41 ?_ | refine S46 ?_ | refine S65 ?_)
  exact ⟨.inr rfl, .cl rfl⟩
set_option maxHeartbeats 4000000 in
set_option maxRecDepth 100000 in
theorem inssort_e {xs : List Int} {tk : Nat} {h : HP} (hx : xs.length ≤ 12) (hb : h.blk tk = some (ints xs)) :
    SChE Try.prog 57 [.ref tk 0 1 xs.length, pint ((0 : Nat) : Int), pint xs.length] h (fun _ h' => ∃ zs : List Int, zs.Perm xs ∧ zs.Pairwise (· ≤ ·) ∧ h'.blk tk = some (ints zs) ∧ Fr [tk] h h') := by
  refine SChE.go {} tok mixed Try.func57 rfl rfl Try.ntmps57 rfl rfl (by kernel_rfl) (fun hw => ?_)
  first | simp only [updS] | simp only [updL, Nat.reduceAdd]
  have htk := hw.lt hb
  repeat (first | refine S0 ?_ | refine S1 ?_ | refine S2 ?_ | refine S3 ?_ | refine S4 ?_ | refine S5 ?_ | refine S6 ?_ | refine S7 ?_ | refine S8 ?_ | refine S9 ?_ | refine S10 ?_ | refine S11 ?_ | refine S12 ?_ | refine S13 ?_ | refine S15 ?_ | refine S16 ?_ | refine S19 ?_ | refine S20 ?_ | refine S21 ?_ | refine S22 ?_ | refine S24 ?_ | refine S27 ?_ | refine S29 ?_ | refine S30 ?_ | refine S31 ?_ | refine S33 ?_ | refine S37 ?_ | refine S38 ?_ | refine S40 ?_ | refine S41 ?_ | refine S46 ?_ | refine S65 ?_)
  refine CW.loopS (fun i : Nat × List Int => 1 ≤ i.1 ∧ i.1 ≤ xs.length + 1 ∧ i.2.Perm xs ∧ Asc i.2 (min i.1 xs.length))
    (fun i => [(0, .ref tk 0 1 xs.length), (1, pint ((0 : Nat) : Int)), (2, pint xs.length), (6, pint i.1)]) (fun i hp => hp.blk tk = some (ints i.2) ∧ Fr [tk] h hp) (fun i => xs.length + 1 - i.1) (1, xs)
    ⟨⟨Nat.le_refl _, by simp only; omega, .refl _, fun p q h1 h2 => by simp only at h2; omega⟩, SLx, HBx, Fr.refl _ _⟩ ?_
  rintro ⟨i, zs⟩ t hp ⟨h1, h2, h3, h4⟩ ⟨hB, hFr⟩
  simp only at h1 h2 h3 h4 hB
  have hzl := h3.length_eq
  first | simp only [updS] | simp only [updL, Nat.reduceAdd]
  by_cases hlt : i < xs.length
  · rw [Nat.min_eq_left (by omega)] at h4
    repeat (first | refine S0 ?_ | refine S1 ?_ | refine S2 ?_ | refine S3 ?_ | refine S4 ?_ | refine S5 ?_ | refine S6 ?_ | refine S7 ?_ | refine S8 ?_ | refine S9 ?_ | refine S10 ?_ | refine S11 ?_ | refine S12 ?_ | refine S13 ?_ | refine S15 ?_ | refine S16 ?_ | refine S19 ?_ | refine S20 ?_ | refine S21 ?_ | refine S22 ?_ | refine S24 ?_ | refine S27 ?_ | refine S29 ?_ | refine S30 ?_ | refine S31 ?_ | refine S33 ?_ | refine S37 ?_ | refine S38 ?_ | refine S40 ?_ | refine S41 ?_ | refine S46 ?_ | refine S65 ?_)
    refine CW.loopS (fun j : Nat × List Int => j.1 ≤ i ∧ j.2.Perm xs ∧ AscB j.2 (i + 1) j.1)
      (fun j => [(0, .ref tk 0 1 xs.length), (1, pint ((0 : Nat) : Int)), (2, pint xs.length), (6, pint i), (7, pint j.1)]) (fun j hp => hp.blk tk = some (ints j.2) ∧ Fr [tk] h hp) (fun j => j.1) (i, zs)
      ⟨⟨Nat.le_refl _, h3, ascB_start h4⟩, SLx, hB, hFr⟩ ?_
    clear hB hFr h4 h3 hzl
    clear zs
    rintro ⟨j, zs⟩ t hp ⟨g1, h3, g3⟩ ⟨hB, hFr⟩
    simp only at g1 h3 g3 hB
    have hzl := h3.length_eq
    first | simp only [updS] | simp only [updL, Nat.reduceAdd]
    by_cases hj0 : j = 0
    · subst hj0
      repeat (first | refine S0 ?_ | refine S1 ?_ | refine S2 ?_ | refine S3 ?_ | refine S4 ?_ | refine S5 ?_ | refine S6 ?_ | refine S7 ?_ | refine S8 ?_ | refine S9 ?_ | refine S10 ?_ | refine S11 ?_ | refine S12 ?_ | refine S13 ?_ | refine S15 ?_ | refine S16 ?_ | refine S19 ?_ | refine S20 ?_ | refine S21 ?_ | refine S22 ?_ | refine S24 ?_ | refine S27 ?_ | refine S29 ?_ | refine S30 ?_ | refine S31 ?_ | refine S33 ?_ | refine S37 ?_ | refine S38 ?_ | refine S40 ?_ | refine S41 ?_ | refine S46 ?_ | refine S65 ?_)
      have := ascB_end g3 (.inl rfl)
      exact ⟨(i + 1, zs), ⟨by simp only; omega, by simp only; omega, h3, by simp only; rwa [Nat.min_eq_left (by omega)]⟩, SLx, ⟨hB, hFr⟩, by simp only; omega⟩
    · have hj1 : (1 : Int) ≤ (j : Int) := by omega
      have ej : ((j : Int) - 1).toNat = j - 1 := by omega
      have kl := less_s (zs.getD j 0) (zs.getD ((j : Int) - 1).toNat 0)
      repeat (first | refine S0 ?_ | refine S1 ?_ | refine S2 ?_ | refine S3 ?_ | refine S4 ?_ | refine S5 ?_ | refine S6 ?_ | refine S7 ?_ | refine S8 ?_ | refine S9 ?_ | refine S10 ?_ | refine S11 ?_ | refine S12 ?_ | refine S13 ?_ | refine S15 ?_ | refine S16 ?_ | refine S19 ?_ | refine S20 ?_ | refine S21 ?_ | refine S22 ?_ | refine S24 ?_ | refine S27 ?_ | refine S29 ?_ | refine S30 ?_ | refine S31 ?_ | refine S33 ?_ | refine S37 ?_ | refine S38 ?_ | refine S40 ?_ | refine S41 ?_ | refine S46 ?_ | refine S65 ?_)
      refine Scall (args := [pint (zs.getD j 0), pint (zs.getD ((j : Int) - 1).toNat 0)]) kl ?_
      rw [ej]
      by_cases hlt2 : zs.getD j 0 < zs.getD (j - 1) 0
      · rw [show decide (zs.getD j 0 < zs.getD (j - 1) 0) = true from decide_eq_true hlt2]
        repeat (first | refine S0 ?_ | refine S1 ?_ | refine S2 ?_ | refine S3 ?_ | refine S4 ?_ | refine S5 ?_ | refine S6 ?_ | refine S7 ?_ | refine S8 ?_ | refine S9 ?_ | refine S10 ?_ | refine S11 ?_ | refine S12 ?_ | refine S13 ?_ | refine S15 ?_ | refine S16 ?_ | refine S19 ?_ | refine S20 ?_ | refine S21 ?_ | refine S22 ?_ | refine S24 ?_ | refine S27 ?_ | refine S29 ?_ | refine S30 ?_ | refine S31 ?_ | refine S33 ?_ | refine S37 ?_ | refine S38 ?_ | refine S40 ?_ | refine S41 ?_ | refine S46 ?_ | refine S65 ?_)
        refine ⟨(j - 1, swp zs j), ⟨by simp only; omega, (swp_perm (by omega) (by omega)).trans h3, ascB_swp g3 (by omega) g1 (by omega) hlt2⟩, ?_, ⟨?_, ?_⟩, by simp only; omega⟩
        · simp only
          rw [show (((j - 1 : Nat)) : Int) = (j : Int) - 1 by omega]
          exact SLx
        · simp only [swp]
          rw [← ej]
          exact HBx
        · exact (hFr.set _ (.inl (by simp))).set _ (.inl (by simp))
      · rw [show decide (zs.getD j 0 < zs.getD (j - 1) 0) = false from decide_eq_false hlt2]
        repeat (first | refine S0 ?_ | refine S1 ?_ | refine S2 ?_ | refine S3 ?_ | refine S4 ?_ | refine S5 ?_ | refine S6 ?_ | refine S7 ?_ | refine S8 ?_ | refine S9 ?_ | refine S10 ?_ | refine S11 ?_ | refine S12 ?_ | refine S13 ?_ | refine S15 ?_ | refine S16 ?_ | refine S19 ?_ | refine S20 ?_ | refine S21 ?_ | refine S22 ?_ | refine S24 ?_ | refine S27 ?_ | refine S29 ?_ | refine S30 ?_ | refine S31 ?_ | refine S33 ?_ | refine S37 ?_ | refine S38 ?_ | refine S40 ?_ | refine S41 ?_ | refine S46 ?_ | refine S65 ?_)
        have := ascB_end g3 (.inr (by omega))
        exact ⟨(i + 1, zs), ⟨by simp only; omega, by simp only; omega, h3, by simp only; rwa [Nat.min_eq_left (by omega)]⟩, SLx, ⟨hB, hFr⟩, by simp only; omega⟩
  · repeat (first | refine S0 ?_ | refine S1 ?_ | refine S2 ?_ | refine S3 ?_ | refine S4 ?_ | refine S5 ?_ | refine S6 ?_ | refine S7 ?_ | refine S8 ?_ | refine S9 ?_ | refine S10 ?_ | refine S11 ?_ | refine S12 ?_ | refine S13 ?_ | refine S15 ?_ | refine S16 ?_ | refine S19 ?_ | refine S20 ?_ | refine S21 ?_ | refine S22 ?_ | refine S24 ?_ | refine S27 ?_ | refine S29 ?_ | refine S30 ?_ | refine S31 ?_ | refine S33 ?_ | refine S37 ?_ | refine S38 ?_ | refine S40 ?_ | refine S41 ?_ | refine S46 ?_ | refine S65 ?_)
    exact ⟨.inl rfl, _, rfl, zs, h3, Asc.pw (by rw [hzl]; rwa [Nat.min_eq_right (by omega)] at h4), hB, hFr⟩
set_option maxHeartbeats 4000000 in
set_option maxRecDepth 100000 in
theorem pdq_e {xs : List Int} {tk : Nat} {h : HP} {L : Int} (hx : xs.length ≤ 12) (hb : h.blk tk = some (ints xs)) :
    SChE Try.prog 55 [.ref tk 0 1 xs.length, pint ((0 : Nat) : Int), pint xs.length, pint L] h (fun _ h' => ∃ zs : List Int, zs.Perm xs ∧ zs.Pairwise (· ≤ ·) ∧ h'.blk tk = some (ints zs) ∧ Fr [tk] h h') := by
  refine SChE.go {} tok mixed Try.func55 rfl rfl Try.ntmps55 rfl rfl (by kernel_rfl) (fun hw => ?_)
  first | simp only [updS] | simp only [updL, Nat.reduceAdd]
  have htk := hw.lt hb
  repeat (first | refine S0 ?_ | refine S1 ?_ | refine S2 ?_ | refine S3 ?_ | refine S4 ?_ | refine S5 ?_ | refine S6 ?_ | refine S7 ?_ | refine S8 ?_ | refine S9 ?_ | refine S10 ?_ | refine S11 ?_ | refine S12 ?_ | refine S13 ?_ | refine S15 ?_ | refine S16 ?_ | refine S19 ?_ | refine S20 ?_ | refine S21 ?_ | refine S22 ?_ | refine S24 ?_ | refine S27 ?_ | refine S29 ?_ | refine S30 ?_ | refine S31 ?_ | refine S33 ?_ | refine S37 ?_ | refine S38 ?_ | refine S40 ?_ | refine S41 ?_ | refine S46 ?_ | refine S65 ?_)
  refine CW.loopS (fun _ : Unit => True) (fun _ => [(0, .ref tk 0 1 xs.length), (1, pint ((0 : Nat) : Int)), (2, pint xs.length), (3, pint L)]) (fun _ hp => hp = h) (fun _ => 0) () ⟨trivial, SLx, rfl⟩ ?_
  rintro _ t hp _ rfl
  first | simp only [updS] | simp only [updL, Nat.reduceAdd]
  repeat (first | refine S0 ?_ | refine S1 ?_ | refine S2 ?_ | refine S3 ?_ | refine S4 ?_ | refine S5 ?_ | refine S6 ?_ | refine S7 ?_ | refine S8 ?_ | refine S9 ?_ | refine S10 ?_ | refine S11 ?_ | refine S12 ?_ | refine S13 ?_ | refine S15 ?_ | refine S16 ?_ | refine S19 ?_ | refine S20 ?_ | refine S21 ?_ | refine S22 ?_ | refine S24 ?_ | refine S27 ?_ | refine S29 ?_ | refine S30 ?_ | refine S31 ?_ | refine S33 ?_ | refine S37 ?_ | refine S38 ?_ | refine S40 ?_ | refine S41 ?_ | refine S46 ?_ | refine S65 ?_)
  refine Scalle (args := [.ref tk 0 1 xs.length, pint ((0 : Nat) : Int), pint xs.length]) (inssort_e hx hb) ?_
  rintro r h' ⟨zs, g1, g2, g3, g4⟩
  repeat (first | refine S0 ?_ | refine S1 ?_ | refine S2 ?_ | refine S3 ?_ | refine S4 ?_ | refine S5 ?_ | refine S6 ?_ | refine S7 ?_ | refine S8 ?_ | refine S9 ?_ | refine S10 ?_ | refine S11 ?_ | refine S12 ?_ | refine S13 ?_ | refine S15 ?_ | refine S16 ?_ | refine S19 ?_ | refine S20 ?_ | refine S21 ?_ | refine S22 ?_ | refine S24 ?_ | refine S27 ?_ | refine S29 ?_ | refine S30 ?_ | refine S31 ?_ | refine S33 ?_ | refine S37 ?_ | refine S38 ?_ | refine S40 ?_ | refine S41 ?_ | refine S46 ?_ | refine S65 ?_)
  exact ⟨.inr rfl, _, rfl, zs, g1, g2, g3, g4⟩
set_option maxHeartbeats 4000000 in
set_option maxRecDepth 100000 in
theorem sort_e {xs : List Int} {tk : Nat} {h : HP} (hx : xs.length ≤ 12) (hb : h.blk tk = some (ints xs)) :
    SChE Try.prog 53 [.ref tk 0 1 xs.length] h (fun _ h' => ∃ zs : List Int, zs.Perm xs ∧ zs.Pairwise (· ≤ ·) ∧ h'.blk tk = some (ints zs) ∧ Fr [tk] h h') := by
  have kl : SC Try.prog 56 [.sc (.int .u64 xs.length)] (pint (Lib.bitLen xs.length)) := SC.flat (args := [.int .u64 xs.length]) (r := .int .i64 (Lib.bitLen xs.length)) (callable Try.func56 rfl rfl) (fun w => (Try.bits_Len xs.length w (by omega) (by omega)).mono (fun e w' hh => ⟨hh.1, by rw [hh.2]; exact Below.refl _ _⟩))
  refine SChE.go {} tok mixed Try.func53 rfl rfl Try.ntmps53 rfl rfl (by kernel_rfl) (fun hw => ?_)
  first | simp only [updS] | simp only [updL, Nat.reduceAdd]
  have htk := hw.lt hb
  repeat (first | refine S0 ?_ | refine S1 ?_ | refine S2 ?_ | refine S3 ?_ | refine S4 ?_ | refine S5 ?_ | refine S6 ?_ | refine S7 ?_ | refine S8 ?_ | refine S9 ?_ | refine S10 ?_ | refine S11 ?_ | refine S12 ?_ | refine S13 ?_ | refine S15 ?_ | refine S16 ?_ | refine S19 ?_ | refine S20 ?_ | refine S21 ?_ | refine S22 ?_ | refine S24 ?_ | refine S27 ?_ | refine S29 ?_ | refine S30 ?_ | refine S31 ?_ | refine S33 ?_ | refine S37 ?_ | refine S38 ?_ | refine S40 ?_ | refine S41 ?_ | refine S46 ?_ | refine S65 ?_)
  refine AW.conv EVx (conv_ui xs.length (by omega)) ?_
  repeat (first | refine S0 ?_ | refine S1 ?_ | refine S2 ?_ | refine S3 ?_ | refine S4 ?_ | refine S5 ?_ | refine S6 ?_ | refine S7 ?_ | refine S8 ?_ | refine S9 ?_ | refine S10 ?_ | refine S11 ?_ | refine S12 ?_ | refine S13 ?_ | refine S15 ?_ | refine S16 ?_ | refine S19 ?_ | refine S20 ?_ | refine S21 ?_ | refine S22 ?_ | refine S24 ?_ | refine S27 ?_ | refine S29 ?_ | refine S30 ?_ | refine S31 ?_ | refine S33 ?_ | refine S37 ?_ | refine S38 ?_ | refine S40 ?_ | refine S41 ?_ | refine S46 ?_ | refine S65 ?_)
  refine Scall (args := [.sc (.int .u64 xs.length)]) kl ?_
  repeat (first | refine S0 ?_ | refine S1 ?_ | refine S2 ?_ | refine S3 ?_ | refine S4 ?_ | refine S5 ?_ | refine S6 ?_ | refine S7 ?_ | refine S8 ?_ | refine S9 ?_ | refine S10 ?_ | refine S11 ?_ | refine S12 ?_ | refine S13 ?_ | refine S15 ?_ | refine S16 ?_ | refine S19 ?_ | refine S20 ?_ | refine S21 ?_ | refine S22 ?_ | refine S24 ?_ | refine S27 ?_ | refine S29 ?_ | refine S30 ?_ | refine S31 ?_ | refine S33 ?_ | refine S37 ?_ | refine S38 ?_ | refine S40 ?_ | refine S41 ?_ | refine S46 ?_ | refine S65 ?_)
  refine Scalle (args := [.ref tk 0 1 xs.length, pint ((0 : Nat) : Int), pint xs.length, pint (Lib.bitLen xs.length)]) (pdq_e hx hb) ?_
  rintro r h' ⟨zs, g1, g2, g3, g4⟩
  repeat (first | refine S0 ?_ | refine S1 ?_ | refine S2 ?_ | refine S3 ?_ | refine S4 ?_ | refine S5 ?_ | refine S6 ?_ | refine S7 ?_ | refine S8 ?_ | refine S9 ?_ | refine S10 ?_ | refine S11 ?_ | refine S12 ?_ | refine S13 ?_ | refine S15 ?_ | refine S16 ?_ | refine S19 ?_ | refine S20 ?_ | refine S21 ?_ | refine S22 ?_ | refine S24 ?_ | refine S27 ?_ | refine S29 ?_ | refine S30 ?_ | refine S31 ?_ | refine S33 ?_ | refine S37 ?_ | refine S38 ?_ | refine S40 ?_ | refine S41 ?_ | refine S46 ?_ | refine S65 ?_)
  exact ⟨.inl rfl, _, rfl, zs, g1, g2, g3, g4⟩
end Go.Proofs.Ythacglggkgmbhaa
