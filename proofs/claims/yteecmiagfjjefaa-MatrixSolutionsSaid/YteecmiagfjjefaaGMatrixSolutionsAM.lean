/- The number of solutions is the same when a column is added to another. Plain facts: nothing of the program is here. -/
import Derived.Test.YteecmiagfjjefaaGMatrixSolutionsAL
set_option linter.unusedSectionVars false
set_option linter.unusedVariables false
set_option linter.unusedSimpArgs false
namespace Go.Proofs.Yteecmiagfjjefaa

/-- the vector that is meant after a column was added -/
def mv (m a b : Nat) (c : Int) (v : List Nat) : List Nat := v.set b ((((v.getD b 0 : Nat) : Int) + c * ((v.getD a 0 : Nat) : Int)) % (m : Int)).toNat
theorem sm_single {k b : Nat} (hb : b < k) (t : Int) : sm (List.range k) (fun j => if j = b then t else 0) = t := by
  have key : ∀ k, sm (List.range k) (fun j => if j = b then t else 0) = if b < k then t else 0 := by
    intro k
    induction k with
    | zero => rfl
    | succ k ih =>
      rw [List.range_succ, sm_append, ih]
      simp only [sm, Int.add_zero]
      by_cases h : k = b
      · rw [if_pos h, if_neg (by omega), if_pos (by omega)]; omega
      · rw [if_neg h]
        by_cases h2 : b < k
        · rw [if_pos h2, if_pos (by omega)]; omega
        · rw [if_neg h2, if_neg (by omega)]; rfl
  rw [key k, if_pos hb]
section
variable {m k a b : Nat} (hm : 1 ≤ m) (ha : a < k) (hb : b < k) (hab : a ≠ b)
include hm ha hb hab
theorem mv_mem (c : Int) {v : List Nat} (hv : v ∈ vecs m k) : mv m a b c v ∈ vecs m k := by
  obtain ⟨h1, h2⟩ := mem_vecs.1 hv
  refine mem_vecs.2 ⟨by simp [mv, h1], fun x hx => ?_⟩
  rcases List.mem_or_eq_of_mem_set hx with hx | rfl
  · exact h2 x hx
  · have := Int.emod_nonneg (((v.getD b 0 : Nat) : Int) + c * ((v.getD a 0 : Nat) : Int)) (show (m : Int) ≠ 0 by omega)
    have := Int.emod_lt_of_pos (((v.getD b 0 : Nat) : Int) + c * ((v.getD a 0 : Nat) : Int)) (show (0 : Int) < m by omega)
    omega
theorem mv_at (c : Int) {v : List Nat} (hv : v ∈ vecs m k) (j : Nat) : (((mv m a b c v).getD j 0 : Nat) : Int) = if j = b then (((v.getD b 0 : Nat) : Int) + c * ((v.getD a 0 : Nat) : Int)) % (m : Int) else ((v.getD j 0 : Nat) : Int) := by
  obtain ⟨h1, _⟩ := mem_vecs.1 hv
  have := Int.emod_nonneg (((v.getD b 0 : Nat) : Int) + c * ((v.getD a 0 : Nat) : Int)) (show (m : Int) ≠ 0 by omega)
  unfold mv
  by_cases h : j = b
  · subst h
    rw [if_pos rfl]
    simp only [List.getD, List.getElem?_set_self (show j < v.length by omega), Option.getD_some]
    exact Int.toNat_of_nonneg this
  · rw [if_neg h]
    simp [List.getD, List.getElem?_set_ne (fun e => h e.symm)]
theorem mv_back (c : Int) {v : List Nat} (hv : v ∈ vecs m k) : mv m a b (-c) (mv m a b c v) = v := by
  have hw := mv_mem hm ha hb hab c hv
  obtain ⟨h1, h2⟩ := mem_vecs.1 hv
  obtain ⟨h3, _⟩ := mem_vecs.1 (mv_mem hm ha hb hab (-c) hw)
  apply List.ext_getElem (by omega)
  intro j g1 g2
  have e := mv_at hm ha hb hab (-c) hw j
  have eb := mv_at hm ha hb hab c hv b
  have ea := mv_at hm ha hb hab c hv a
  have ej := mv_at hm ha hb hab c hv j
  rw [if_pos rfl] at eb
  rw [if_neg hab] at ea
  have hj : ((mv m a b (-c) (mv m a b c v)).getD j 0 : Nat) = v.getD j 0 := by
    by_cases h : j = b
    · subst h
      rw [if_pos rfl, eb, ea] at e
      have hx : v.getD j 0 < m := h2 _ (by rw [List.getD_eq_getElem?_getD, List.getElem?_eq_getElem g2]; exact List.getElem_mem g2)
      have : (((v.getD j 0 : Nat) : Int) + c * ((v.getD a 0 : Nat) : Int)) % (m : Int) + -c * ((v.getD a 0 : Nat) : Int) = ((v.getD j 0 : Nat) : Int) + (m : Int) * -((((v.getD j 0 : Nat) : Int) + c * ((v.getD a 0 : Nat) : Int)) / (m : Int)) := by
        have := Int.emod_add_mul_ediv (((v.getD j 0 : Nat) : Int) + c * ((v.getD a 0 : Nat) : Int)) (m : Int)
        rw [Int.neg_mul, Int.mul_neg]; omega
      rw [this, Int.add_mul_emod_self_left, Int.emod_eq_of_lt (by omega) (by omega)] at e
      omega
    · rw [if_neg h] at e ej
      rw [ej] at e
      omega
  simpa [List.getD, g1, g2] using hj
theorem dot_col (M : Nat → Nat → Int) (r : Nat) (c : Int) {v : List Nat} (hv : v ∈ vecs m k) : (m : Int) ∣ dotV (M r) (mv m a b c v) k ↔ (m : Int) ∣ dotV (colAdd M a b c r) v k := by
  obtain ⟨q, hq⟩ : ∃ q, q = (((v.getD b 0 : Nat) : Int) + c * ((v.getD a 0 : Nat) : Int)) / (m : Int) := ⟨_, rfl⟩
  have he := Int.emod_add_mul_ediv (((v.getD b 0 : Nat) : Int) + c * ((v.getD a 0 : Nat) : Int)) (m : Int)
  rw [← hq] at he
  have e1 : dotV (M r) (mv m a b c v) k = dotV (M r) v k + M r b * (c * ((v.getD a 0 : Nat) : Int) - (m : Int) * q) := by
    unfold dotV
    rw [← sm_single hb (M r b * (c * ((v.getD a 0 : Nat) : Int) - (m : Int) * q)), ← sm_add]
    refine sm_congr (fun j _ => ?_)
    rw [mv_at hm ha hb hab c hv j]
    by_cases h : j = b
    · subst h
      rw [if_pos rfl, if_pos rfl, ← Int.mul_add]
      congr 1; omega
    · rw [if_neg h, if_neg h, Int.add_zero]
  have e2 : dotV (colAdd M a b c r) v k = dotV (M r) v k + c * M r b * ((v.getD a 0 : Nat) : Int) := by
    unfold dotV
    rw [← sm_single ha (c * M r b * ((v.getD a 0 : Nat) : Int)), ← sm_add]
    refine sm_congr (fun j _ => ?_)
    show (if j = a then _ else _) * _ = _
    by_cases h : j = a
    · subst h
      rw [if_pos rfl, if_pos rfl, Int.add_mul]
    · rw [if_neg h, if_neg h, Int.add_zero]
  have e3 : dotV (M r) (mv m a b c v) k = dotV (colAdd M a b c r) v k + (m : Int) * -(M r b * q) := by
    rw [e1, e2, Int.mul_sub, Int.mul_neg, ← Int.mul_assoc, Int.mul_comm (M r b) c, ← Int.mul_assoc (M r b), Int.mul_comm (M r b) (m : Int), Int.mul_assoc (m : Int)]
    omega
  rw [e3]
  exact ⟨fun h => by
    have := Int.dvd_sub h (Int.dvd_mul_right (m : Int) (-(M r b * q)))
    rwa [Int.add_sub_cancel] at this, fun h => Int.dvd_add h (Int.dvd_mul_right _ _)⟩
theorem cnt_col (M : Nat → Nat → Int) (n : Nat) (c : Int) : cntS (colAdd M a b c) n k m = cntS M n k m := by
  unfold cntS
  have hp : ((vecs m k).map (mv m a b c)).Perm (vecs m k) := by
    refine (List.perm_ext_iff_of_nodup ?_ (nodup_vecs m k)).2 (fun v => ⟨fun h => ?_, fun h => ?_⟩)
    · exact List.pairwise_map.2 (List.Pairwise.imp_of_mem (fun {u w} hu hw huw e => huw (by rw [← mv_back hm ha hb hab c hu, e, mv_back hm ha hb hab c hw])) (nodup_vecs m k))
    · obtain ⟨u, hu, rfl⟩ := List.mem_map.1 h
      exact mv_mem hm ha hb hab c hu
    · have := mv_back hm ha hb hab (-c) h
      rw [Int.neg_neg] at this
      exact List.mem_map.2 ⟨_, mv_mem hm ha hb hab (-c) h, this⟩
  rw [← (hp.filter (solB M n k m)).length_eq, List.filter_map, List.length_map]
  congr 1
  refine List.filter_congr (fun v hv => ?_)
  rw [Bool.eq_iff_iff]
  unfold solB
  simp only [List.all_eq_true, List.mem_range, decide_eq_true_eq, Function.comp]
  exact ⟨fun h r hr => (dot_col hm ha hb hab M r c hv).2 (h r hr), fun h r hr => (dot_col hm ha hb hab M r c hv).1 (h r hr)⟩
end
end Go.Proofs.Yteecmiagfjjefaa
