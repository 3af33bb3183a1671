/- The reference's Spelled; half and Full; loose and Tight. No condition of its own. -/
import Derived.Test.YtgjfpmjllpgadaaGGarsideFormsBD
import Derived.Test.YtgjfpmjllpgadaaGGarsideFormsBF
set_option linter.unusedVariables false
set_option linter.unusedSimpArgs false
namespace Go.Proofs.Ytgjfpmjllpgadaa
open Go.RowKit

set_option maxHeartbeats 16000000 in
set_option maxRecDepth 100000 in
theorem spelled_o : ∀ (N : Nat) (p : List Int), Ent p → mu p ≤ N → SCo Try.prog 106 [pli p] 1 (spell p).length (ints (spell p))
  | 0, p, h, hN => by have := h.mu; omega
  | N + 1, p, hE, hN => by
    have hl := hE.len
    refine SCo.go { mt := [40] } tok mixed Try.func106 rfl rfl Try.ntmps106 rfl rfl (by kernel_rfl) ?_
    first | simp only [updS] | simp only [updL, Nat.reduceAdd]
    repeat (first | refine S0 ?_ | refine S1 ?_ | refine S2 ?_ | refine S3 ?_ | refine S4 ?_ | refine S5 ?_ | refine S6 ?_ | refine S7 ?_ | refine S8 ?_ | refine S9 ?_ | refine S10 ?_ | refine S11 ?_ | refine S12 ?_ | refine S13 ?_ | refine S15 ?_ | refine S16 ?_ | refine S19 ?_ | refine S20 ?_ | refine S21 ?_ | refine S22 ?_ | refine S23 ?_ | refine S25 ?_ | refine S26 ?_ | refine S27 ?_ | refine S30 ?_ | refine S33 ?_ | refine S37 ?_ | refine S38 ?_ | refine S40 ?_ | refine S41 ?_ | refine S46 ?_ | refine S50 ?_ | refine S65 ?_)
    refine CW.loopS (fun i : Nat => 1 ≤ i ∧ (p.length = 0 → i = 1) ∧ i ≤ p.length + 1 ∧ (∀ j, j + 1 < i → ¬ p.getD (j + 1) 0 < p.getD j 0)) (fun i => [(0, pli p), (3, pint i)]) (fun _ hp => hp = H0) (fun i => 8 - i) 1 ⟨⟨Nat.le_refl _, fun _ => rfl, by omega, fun j hj => by omega⟩, SLx, rfl⟩ ?_
    rintro i t hp ⟨hi1, hi0, hi6, hasc⟩ rfl
    first | simp only [updS] | simp only [updL, Nat.reduceAdd]
    by_cases hi : i < p.length
    · obtain ⟨j, rfl⟩ : ∃ j, i = j + 1 := ⟨i - 1, by omega⟩
      have e1 : (((j + 1 : Nat) : Int) - 1).toNat = j := by omega
      by_cases hd : p.getD (j + 1) 0 < p.getD j 0
      · obtain ⟨g1, g2, g3⟩ := hE.swp hi hd
        have hds := desc_some hi hd (fun q hq => hasc q (by omega))
        have hsp := spell_some hE hds
        have ih := spelled_o N (swp p j) g1 (by omega)
        have hsl := spell_len g1
        have hd' : p.getD (j + 1) 0 < p.getD (((j + 1 : Nat) : Int) - 1).toNat 0 := by rw [e1]; exact hd
        repeat (first | refine S0 ?_ | refine S1 ?_ | refine S2 ?_ | refine S3 ?_ | refine S4 ?_ | refine S5 ?_ | refine S6 ?_ | refine S7 ?_ | refine S8 ?_ | refine S9 ?_ | refine S10 ?_ | refine S11 ?_ | refine S12 ?_ | refine S13 ?_ | refine S15 ?_ | refine S16 ?_ | refine S19 ?_ | refine S20 ?_ | refine S21 ?_ | refine S22 ?_ | refine S23 ?_ | refine S25 ?_ | refine S26 ?_ | refine S27 ?_ | refine S30 ?_ | refine S33 ?_ | refine S37 ?_ | refine S38 ?_ | refine S40 ?_ | refine S41 ?_ | refine S46 ?_ | refine S50 ?_ | refine S65 ?_)
        refine Scallo (args := [pli p]) (clone_o p (by omega)) ?_
        repeat (first | refine S0 ?_ | refine S1 ?_ | refine S2 ?_ | refine S3 ?_ | refine S4 ?_ | refine S5 ?_ | refine S6 ?_ | refine S7 ?_ | refine S8 ?_ | refine S9 ?_ | refine S10 ?_ | refine S11 ?_ | refine S12 ?_ | refine S13 ?_ | refine S15 ?_ | refine S16 ?_ | refine S19 ?_ | refine S20 ?_ | refine S21 ?_ | refine S22 ?_ | refine S23 ?_ | refine S25 ?_ | refine S26 ?_ | refine S27 ?_ | refine S30 ?_ | refine S33 ?_ | refine S37 ?_ | refine S38 ?_ | refine S40 ?_ | refine S41 ?_ | refine S46 ?_ | refine S50 ?_ | refine S65 ?_)
        simp only [e1, Int.toNat_natCast, Nat.zero_add, Nat.mul_one]
        generalize hh : HP.set _ _ _ = hp2
        have hB2 : hp2.blk (H0.tok false) = some (ints (swp p j)) := by subst hh; unfold swp; exact HBx
        have hn2 : hp2.next = 1 := by subst hh; rfl
        have eb : bw (hp2.add false [PV.sc (Value.int IntKind.i64 ((j + 1 : Nat) : Int))]) (.ref (H0.tok false) 0 1 p.length) = pli (swp p j) := by
          rw [← g3]
          refine bwI ?_
          rw [HP.add_other _ _ _ (by rw [HP.tokF, HP.tokF, hn2]; decide)]
          exact hB2
        refine Scallob (args := [pli (swp p j)]) ih ?_ (ha := by show [bw (hp2.add false [PV.sc (Value.int IntKind.i64 ((j + 1 : Nat) : Int))]) (.ref (H0.tok false) 0 1 p.length)] = [pli (swp p j)]; rw [eb])
        refine AW.app (m2 := (spell (swp p j)).length) (cs := [PV.sc (Value.int IntKind.i64 ((j + 1 : Nat) : Int))]) (cs2 := ints (spell (swp p j))) (r := ints (spell p)) EVx (.inl rfl) rfl HBx ?_ (by simp) (ints_ones _) (by omega) (by rw [hsp]; simp [ints]) rfl ?_
        · show srcA _ (.ref ((hp2.add false [PV.sc (Value.int IntKind.i64 ((j + 1 : Nat) : Int))]).tok false) 0 1 (spell (swp p j)).length) 1 _ _
          exact ⟨rfl, rfl, _, HP.add_same _ _ _, by simp, by simp [ints_take]⟩
        repeat (first | refine S0 ?_ | refine S1 ?_ | refine S2 ?_ | refine S3 ?_ | refine S4 ?_ | refine S5 ?_ | refine S6 ?_ | refine S7 ?_ | refine S8 ?_ | refine S9 ?_ | refine S10 ?_ | refine S11 ?_ | refine S12 ?_ | refine S13 ?_ | refine S15 ?_ | refine S16 ?_ | refine S19 ?_ | refine S20 ?_ | refine S21 ?_ | refine S22 ?_ | refine S23 ?_ | refine S25 ?_ | refine S26 ?_ | refine S27 ?_ | refine S30 ?_ | refine S33 ?_ | refine S37 ?_ | refine S38 ?_ | refine S40 ?_ | refine S41 ?_ | refine S46 ?_ | refine S50 ?_ | refine S65 ?_)
        exact ⟨.inr rfl, Ow.ints (zs := spell p) (ys := spell p) (HP.add_same _ _ _) (by rw [hsp]; simp; omega) rfl⟩
      · have hd' : ¬ p.getD (j + 1) 0 < p.getD (((j + 1 : Nat) : Int) - 1).toNat 0 := by rw [e1]; exact hd
        repeat (first | refine S0 ?_ | refine S1 ?_ | refine S2 ?_ | refine S3 ?_ | refine S4 ?_ | refine S5 ?_ | refine S6 ?_ | refine S7 ?_ | refine S8 ?_ | refine S9 ?_ | refine S10 ?_ | refine S11 ?_ | refine S12 ?_ | refine S13 ?_ | refine S15 ?_ | refine S16 ?_ | refine S19 ?_ | refine S20 ?_ | refine S21 ?_ | refine S22 ?_ | refine S23 ?_ | refine S25 ?_ | refine S26 ?_ | refine S27 ?_ | refine S30 ?_ | refine S33 ?_ | refine S37 ?_ | refine S38 ?_ | refine S40 ?_ | refine S41 ?_ | refine S46 ?_ | refine S50 ?_ | refine S65 ?_)
        exact ⟨j + 1 + 1, ⟨by omega, fun h => by omega, by omega, fun q hq => by
          by_cases hqj : q = j
          · subst hqj; exact hd
          · exact hasc q (by omega)⟩, SLx, rfl, by omega⟩
    · have hds : desc p = none := desc_none (fun j hj => hasc j (by omega))
      have hsp := spell_none hE hds
      rw [hsp]
      repeat (first | refine S0 ?_ | refine S1 ?_ | refine S2 ?_ | refine S3 ?_ | refine S4 ?_ | refine S5 ?_ | refine S6 ?_ | refine S7 ?_ | refine S8 ?_ | refine S9 ?_ | refine S10 ?_ | refine S11 ?_ | refine S12 ?_ | refine S13 ?_ | refine S15 ?_ | refine S16 ?_ | refine S19 ?_ | refine S20 ?_ | refine S21 ?_ | refine S22 ?_ | refine S23 ?_ | refine S25 ?_ | refine S26 ?_ | refine S27 ?_ | refine S30 ?_ | refine S33 ?_ | refine S37 ?_ | refine S38 ?_ | refine S40 ?_ | refine S41 ?_ | refine S46 ?_ | refine S50 ?_ | refine S65 ?_)
      exact ⟨.inr rfl, .nil⟩
/-- the half twist -/
def rvT (n : Nat) : List Int := tabN n (fun i => n - 1 - i)
def hTab : List (FuncId × Hn) := (104, {}) :: (103, {}) :: gTab
theorem hTab_ok : FOk Try.prog (tabE Try.prog hTab) := fokB_s (by kernel_rfl)
theorem le6 {n : Nat} (h : 2 ≤ n ∧ n ≤ 6) : n = 2 ∨ n = 3 ∨ n = 4 ∨ n = 5 ∨ n = 6 := by omega
set_option maxRecDepth 100000 in
theorem half_s {n : Nat} (h : 2 ≤ n ∧ n ≤ 6) : SC Try.prog 109 [pint n] (pli (rvT n)) := by
  rcases le6 h with rfl | rfl | rfl | rfl | rfl <;> exact evP_s tok mixed hTab_ok noLib_ok 1000 (by kernel_rfl)
set_option maxRecDepth 100000 in
theorem full_s {n : Nat} (h : 2 ≤ n ∧ n ≤ 6) : SC Try.prog 104 [pint n] (pli (rvT n)) := by
  rcases le6 h with rfl | rfl | rfl | rfl | rfl <;> exact evP_s tok mixed hTab_ok noLib_ok 1000 (by kernel_rfl)
/-- a crossing of b that could be moved to the end of a -/
def lsB (n : Nat) (a b : List Int) (i : Nat) : Bool := decide (b.getD (i + 1) 0 < b.getD i 0) && decide (gn a i < gn a (i + 1))
def tgt (n : Nat) (a b : List Int) : Bool := (List.range (n - 1)).all fun i => !lsB n a b i
theorem tgt_true {n : Nat} {a b : List Int} (h : ∀ i, i + 1 < n → lsB n a b i = false) : tgt n a b = true := by
  unfold tgt
  rw [List.all_eq_true]
  intro i hi
  rw [h i (by have := List.mem_range.1 hi; omega)]; rfl
theorem tgt_false {n : Nat} {a b : List Int} {i : Nat} (hi : i + 1 < n) (h : lsB n a b i = true) : tgt n a b = false := by
  cases ht : tgt n a b with
  | false => rfl
  | true =>
    unfold tgt at ht
    rw [List.all_eq_true] at ht
    have := ht i (List.mem_range.2 (by omega))
    rw [h] at this; cases this
set_option maxHeartbeats 16000000 in
set_option maxRecDepth 100000 in
theorem loose_i {n : Nat} {a b : List Int} (hn : 2 ≤ n ∧ n ≤ 6) (ha : permFault a = 0) (hal : a.length = n) (hbl : b.length = n) : ∃ z : Int, SC Try.prog 111 [pli a, pli b] (pint z) ∧ ((∃ i : Nat, z = i ∧ i + 1 < n ∧ lsB n a b i = true) ∨ (z = -1 ∧ tgt n a b = true)) := by
  obtain ⟨h9, hp⟩ := permFault_pm ha
  have ho := (order_bd ha).1
  have kb := pback_s (n := a.length) (F := fn a) (G := gn a) hp.tabN hp.lt (fun i hi => ⟨gn_lt hp i hi, fn_gn hp ho hi, gn_fn hp ho hi⟩) h9
  have hc : ∀ i, i < n → (tabN a.length (gn a)).getD i 0 = (gn a i : Int) := fun i hi => tabN_get (by omega)
  have hcl : (tabN a.length (gn a)).length = n := by rw [tab_len]; exact hal
  have hcb : ∀ i, i < n → 0 ≤ (tabN a.length (gn a)).getD i 0 ∧ (tabN a.length (gn a)).getD i 0 ≤ 6 := fun i hi => by rw [hc i hi]; have := gn_lt hp i (by omega); omega
  have key : ∀ z : Int, (∀ b : Bool, True) → True := fun _ _ => trivial
  by_cases hex : ∃ i, i + 1 < n ∧ lsB n a b i = true
  · obtain ⟨i, ⟨hi, hl⟩, hmin⟩ := exists_least (fun i => i + 1 < n ∧ lsB n a b i = true) hex
    refine ⟨i, ?_, .inl ⟨i, rfl, hi, hl⟩⟩
    have hno : ∀ j, j < i → lsB n a b j = false := fun j hj => by
      cases hh : lsB n a b j with
      | false => rfl
      | true => have := hmin j ⟨by omega, hh⟩; omega
    refine SC.go {} tok mixed Try.func111 rfl rfl Try.ntmps111 rfl rfl (by kernel_rfl) ?_
    first | simp only [updS] | simp only [updL, Nat.reduceAdd]
    repeat (first | refine S0 ?_ | refine S1 ?_ | refine S2 ?_ | refine S3 ?_ | refine S4 ?_ | refine S5 ?_ | refine S6 ?_ | refine S7 ?_ | refine S8 ?_ | refine S9 ?_ | refine S10 ?_ | refine S11 ?_ | refine S12 ?_ | refine S13 ?_ | refine S15 ?_ | refine S16 ?_ | refine S19 ?_ | refine S20 ?_ | refine S21 ?_ | refine S22 ?_ | refine S23 ?_ | refine S25 ?_ | refine S26 ?_ | refine S27 ?_ | refine S30 ?_ | refine S33 ?_ | refine S37 ?_ | refine S38 ?_ | refine S40 ?_ | refine S41 ?_ | refine S46 ?_ | refine S50 ?_ | refine S65 ?_)
    refine Scall (args := [pli a]) kb ?_
    generalize tabN a.length (gn a) = c at *
    repeat (first | refine S0 ?_ | refine S1 ?_ | refine S2 ?_ | refine S3 ?_ | refine S4 ?_ | refine S5 ?_ | refine S6 ?_ | refine S7 ?_ | refine S8 ?_ | refine S9 ?_ | refine S10 ?_ | refine S11 ?_ | refine S12 ?_ | refine S13 ?_ | refine S15 ?_ | refine S16 ?_ | refine S19 ?_ | refine S20 ?_ | refine S21 ?_ | refine S22 ?_ | refine S23 ?_ | refine S25 ?_ | refine S26 ?_ | refine S27 ?_ | refine S30 ?_ | refine S33 ?_ | refine S37 ?_ | refine S38 ?_ | refine S40 ?_ | refine S41 ?_ | refine S46 ?_ | refine S50 ?_ | refine S65 ?_)
    refine CW.loopS (fun j : Nat => j ≤ i) (fun j => [(1, pli b), (5, pli c), (11, pint ((n : Int) - 1)), (12, pint j)]) (fun _ _ => True) (fun j => i - j) 0 ⟨Nat.zero_le _, by rw [← hbl]; exact SLx, trivial⟩ ?_
    rintro j t hp' hj _
    first | simp only [updS] | simp only [updL, Nat.reduceAdd]
    have e1 : ((j : Int) + 1).toNat = j + 1 := by omega
    have h1 := hc j (by omega)
    have h2 := hc (j + 1) (by omega)
    have hq : lsB n a b j = (decide (b.getD ((j : Int) + 1).toNat 0 < b.getD j 0) && decide (c.getD j 0 < c.getD ((j : Int) + 1).toNat 0)) := by
      unfold lsB; rw [e1, h1, h2]
      congr 1
      exact decide_eq_decide.2 (by omega)
    by_cases hji : j < i
    · have hf := hno j hji
      rw [hq, Bool.and_eq_false_iff, decide_eq_false_iff_not, decide_eq_false_iff_not] at hf
      by_cases c1 : b.getD ((j : Int) + 1).toNat 0 < b.getD j 0
      · have c2 := hf.resolve_left (fun h => h c1)
        repeat (first | refine S0 ?_ | refine S1 ?_ | refine S2 ?_ | refine S3 ?_ | refine S4 ?_ | refine S5 ?_ | refine S6 ?_ | refine S7 ?_ | refine S8 ?_ | refine S9 ?_ | refine S10 ?_ | refine S11 ?_ | refine S12 ?_ | refine S13 ?_ | refine S15 ?_ | refine S16 ?_ | refine S19 ?_ | refine S20 ?_ | refine S21 ?_ | refine S22 ?_ | refine S23 ?_ | refine S25 ?_ | refine S26 ?_ | refine S27 ?_ | refine S30 ?_ | refine S33 ?_ | refine S37 ?_ | refine S38 ?_ | refine S40 ?_ | refine S41 ?_ | refine S46 ?_ | refine S50 ?_ | refine S65 ?_)
        exact ⟨j + 1, hji, SLx, trivial, by omega⟩
      · repeat (first | refine S0 ?_ | refine S1 ?_ | refine S2 ?_ | refine S3 ?_ | refine S4 ?_ | refine S5 ?_ | refine S6 ?_ | refine S7 ?_ | refine S8 ?_ | refine S9 ?_ | refine S10 ?_ | refine S11 ?_ | refine S12 ?_ | refine S13 ?_ | refine S15 ?_ | refine S16 ?_ | refine S19 ?_ | refine S20 ?_ | refine S21 ?_ | refine S22 ?_ | refine S23 ?_ | refine S25 ?_ | refine S26 ?_ | refine S27 ?_ | refine S30 ?_ | refine S33 ?_ | refine S37 ?_ | refine S38 ?_ | refine S40 ?_ | refine S41 ?_ | refine S46 ?_ | refine S50 ?_ | refine S65 ?_)
        exact ⟨j + 1, hji, SLx, trivial, by omega⟩
    · obtain rfl : j = i := by omega
      rw [hq, Bool.and_eq_true, decide_eq_true_eq, decide_eq_true_eq] at hl
      obtain ⟨c1, c2⟩ := hl
      repeat (first | refine S0 ?_ | refine S1 ?_ | refine S2 ?_ | refine S3 ?_ | refine S4 ?_ | refine S5 ?_ | refine S6 ?_ | refine S7 ?_ | refine S8 ?_ | refine S9 ?_ | refine S10 ?_ | refine S11 ?_ | refine S12 ?_ | refine S13 ?_ | refine S15 ?_ | refine S16 ?_ | refine S19 ?_ | refine S20 ?_ | refine S21 ?_ | refine S22 ?_ | refine S23 ?_ | refine S25 ?_ | refine S26 ?_ | refine S27 ?_ | refine S30 ?_ | refine S33 ?_ | refine S37 ?_ | refine S38 ?_ | refine S40 ?_ | refine S41 ?_ | refine S46 ?_ | refine S50 ?_ | refine S65 ?_)
      exact ⟨.inr rfl, .cl rfl⟩
  · have hno : ∀ i, i + 1 < n → lsB n a b i = false := fun i hi => by
      cases hh : lsB n a b i with
      | false => rfl
      | true => exact absurd ⟨i, hi, hh⟩ hex
    refine ⟨-1, ?_, .inr ⟨rfl, tgt_true hno⟩⟩
    refine SC.go {} tok mixed Try.func111 rfl rfl Try.ntmps111 rfl rfl (by kernel_rfl) ?_
    first | simp only [updS] | simp only [updL, Nat.reduceAdd]
    repeat (first | refine S0 ?_ | refine S1 ?_ | refine S2 ?_ | refine S3 ?_ | refine S4 ?_ | refine S5 ?_ | refine S6 ?_ | refine S7 ?_ | refine S8 ?_ | refine S9 ?_ | refine S10 ?_ | refine S11 ?_ | refine S12 ?_ | refine S13 ?_ | refine S15 ?_ | refine S16 ?_ | refine S19 ?_ | refine S20 ?_ | refine S21 ?_ | refine S22 ?_ | refine S23 ?_ | refine S25 ?_ | refine S26 ?_ | refine S27 ?_ | refine S30 ?_ | refine S33 ?_ | refine S37 ?_ | refine S38 ?_ | refine S40 ?_ | refine S41 ?_ | refine S46 ?_ | refine S50 ?_ | refine S65 ?_)
    refine Scall (args := [pli a]) kb ?_
    generalize tabN a.length (gn a) = c at *
    repeat (first | refine S0 ?_ | refine S1 ?_ | refine S2 ?_ | refine S3 ?_ | refine S4 ?_ | refine S5 ?_ | refine S6 ?_ | refine S7 ?_ | refine S8 ?_ | refine S9 ?_ | refine S10 ?_ | refine S11 ?_ | refine S12 ?_ | refine S13 ?_ | refine S15 ?_ | refine S16 ?_ | refine S19 ?_ | refine S20 ?_ | refine S21 ?_ | refine S22 ?_ | refine S23 ?_ | refine S25 ?_ | refine S26 ?_ | refine S27 ?_ | refine S30 ?_ | refine S33 ?_ | refine S37 ?_ | refine S38 ?_ | refine S40 ?_ | refine S41 ?_ | refine S46 ?_ | refine S50 ?_ | refine S65 ?_)
    refine CW.loopS (fun j : Nat => j + 1 ≤ n) (fun j => [(1, pli b), (5, pli c), (11, pint ((n : Int) - 1)), (12, pint j)]) (fun _ _ => True) (fun j => n - j) 0 ⟨by omega, by rw [← hbl]; exact SLx, trivial⟩ ?_
    rintro j t hp' hj _
    first | simp only [updS] | simp only [updL, Nat.reduceAdd]
    have e1 : ((j : Int) + 1).toNat = j + 1 := by omega
    by_cases hji : j + 1 < n
    · have h1 := hc j (by omega)
      have h2 := hc (j + 1) (by omega)
      have hq : lsB n a b j = (decide (b.getD ((j : Int) + 1).toNat 0 < b.getD j 0) && decide (c.getD j 0 < c.getD ((j : Int) + 1).toNat 0)) := by
        unfold lsB; rw [e1, h1, h2]
        congr 1
        exact decide_eq_decide.2 (by omega)
      have hf := hno j hji
      rw [hq, Bool.and_eq_false_iff, decide_eq_false_iff_not, decide_eq_false_iff_not] at hf
      by_cases c1 : b.getD ((j : Int) + 1).toNat 0 < b.getD j 0
      · have c2 := hf.resolve_left (fun h => h c1)
        repeat (first | refine S0 ?_ | refine S1 ?_ | refine S2 ?_ | refine S3 ?_ | refine S4 ?_ | refine S5 ?_ | refine S6 ?_ | refine S7 ?_ | refine S8 ?_ | refine S9 ?_ | refine S10 ?_ | refine S11 ?_ | refine S12 ?_ | refine S13 ?_ | refine S15 ?_ | refine S16 ?_ | refine S19 ?_ | refine S20 ?_ | refine S21 ?_ | refine S22 ?_ | refine S23 ?_ | refine S25 ?_ | refine S26 ?_ | refine S27 ?_ | refine S30 ?_ | refine S33 ?_ | refine S37 ?_ | refine S38 ?_ | refine S40 ?_ | refine S41 ?_ | refine S46 ?_ | refine S50 ?_ | refine S65 ?_)
        exact ⟨j + 1, by omega, SLx, trivial, by omega⟩
      · repeat (first | refine S0 ?_ | refine S1 ?_ | refine S2 ?_ | refine S3 ?_ | refine S4 ?_ | refine S5 ?_ | refine S6 ?_ | refine S7 ?_ | refine S8 ?_ | refine S9 ?_ | refine S10 ?_ | refine S11 ?_ | refine S12 ?_ | refine S13 ?_ | refine S15 ?_ | refine S16 ?_ | refine S19 ?_ | refine S20 ?_ | refine S21 ?_ | refine S22 ?_ | refine S23 ?_ | refine S25 ?_ | refine S26 ?_ | refine S27 ?_ | refine S30 ?_ | refine S33 ?_ | refine S37 ?_ | refine S38 ?_ | refine S40 ?_ | refine S41 ?_ | refine S46 ?_ | refine S50 ?_ | refine S65 ?_)
        exact ⟨j + 1, by omega, SLx, trivial, by omega⟩
    · repeat (first | refine S0 ?_ | refine S1 ?_ | refine S2 ?_ | refine S3 ?_ | refine S4 ?_ | refine S5 ?_ | refine S6 ?_ | refine S7 ?_ | refine S8 ?_ | refine S9 ?_ | refine S10 ?_ | refine S11 ?_ | refine S12 ?_ | refine S13 ?_ | refine S15 ?_ | refine S16 ?_ | refine S19 ?_ | refine S20 ?_ | refine S21 ?_ | refine S22 ?_ | refine S23 ?_ | refine S25 ?_ | refine S26 ?_ | refine S27 ?_ | refine S30 ?_ | refine S33 ?_ | refine S37 ?_ | refine S38 ?_ | refine S40 ?_ | refine S41 ?_ | refine S46 ?_ | refine S50 ?_ | refine S65 ?_)
      exact ⟨.inr rfl, .cl rfl⟩
end Go.Proofs.Ytgjfpmjllpgadaa
