/- The number of solutions is the same when a column is added to another. Plain facts: nothing of the program is here. -/
import Derived.Test.YtgjfpmjllpgadaaGColorCountsAI
set_option linter.unusedSectionVars false
set_option linter.unusedVariables false
set_option linter.unusedSimpArgs false
namespace Go.Proofs.Ytgjfpmjllpgadaa

/-- the vector that is meant after a column was added -/
def mv (m a b : Nat) (c : Int) (v : List Nat) : List Nat := v.set b ((((v.getD b 0 : Nat) : Int) + c * ((v.getD a 0 : Nat) : Int)) % (m : Int)).toNat
theorem sm_single {k b : Nat} (hb : b < k) (t : Int) : sm (List.range k) (fun j => if j = b then t else 0) = t := by
  have key : ∀ k, sm (List.range k) (fun j => if j = b then t else 0) = if b < k then t else 0 := by
    intro k
    induction k with
    | zero => rfl
    | succ k ih =>
      rw [List.range_succ, sm_append, ih]
      simp only [sm, Int.add_zero]
      by_cases h : k = b
      · rw [if_pos h, if_neg (by omega), if_pos (by omega)]; omega
      · rw [if_neg h]
        by_cases h2 : b < k
        · rw [if_pos h2, if_pos (by omega)]; omega
        · rw [if_neg h2, if_neg (by omega)]; rfl
  rw [key k, if_pos hb]
section
variable {m k a b : Nat} (hm : 1 ≤ m) (ha : a < k) (hb : b < k) (hab : a ≠ b)
include hm ha hb hab
theorem mv_mem (c : Int) {v : List Nat} (hv : v ∈ vecs m k) : mv m a b c v ∈ vecs m k := by
  obtain ⟨h1, h2⟩ := mem_vecs.1 hv
  refine mem_vecs.2 ⟨by simp [mv, h1], fun x hx => ?_⟩
  rcases List.mem_or_eq_of_mem_set hx with hx | rfl
  · exact h2 x hx
  · have := Int.emod_nonneg (((v.getD b 0 : Nat) : Int) + c * ((v.getD a 0 : Nat) : Int)) (show (m : Int) ≠ 0 by omega)
    have := Int.emod_lt_of_pos (((v.getD b 0 : Nat) : Int) + c * ((v.getD a 0 : Nat) : Int)) (show (0 : Int) < m by omega)
    omega
theorem mv_at (c : Int) {v : List Nat} (hv : v ∈ vecs m k) (j : Nat) : (((mv m a b c v).getD j 0 : Nat) : Int) = if j = b then (((v.getD b 0 : Nat) : Int) + c * ((v.getD a 0 : Nat) : Int)) % (m : Int) else ((v.getD j 0 : Nat) : Int) := by
  obtain ⟨h1, _⟩ := mem_vecs.1 hv
  have := Int.emod_nonneg (((v.getD b 0 : Nat) : Int) + c * ((v.getD a 0 : Nat) : Int)) (show (m : Int) ≠ 0 by omega)
  unfold mv
  by_cases h : j = b
  · subst h
    rw [if_pos rfl]
    simp only [List.getD, List.getElem?_set_self (show j < v.length by omega), Option.getD_some]
    exact Int.toNat_of_nonneg this
  · rw [if_neg h]
    simp [List.getD, List.getElem?_set_ne (fun e => h e.symm)]
theorem mv_back (c : Int) {v : List Nat} (hv : v ∈ vecs m k) : mv m a b (-c) (mv m a b c v) = v := by
  have hw := mv_mem hm ha hb hab c hv
  obtain ⟨h1, h2⟩ := mem_vecs.1 hv
  obtain ⟨h3, _⟩ := mem_vecs.1 (mv_mem hm ha hb hab (-c) hw)
  apply List.ext_getElem (by omega)
  intro j g1 g2
  have e := mv_at hm ha hb hab (-c) hw j
  have eb := mv_at hm ha hb hab c hv b
  have ea := mv_at hm ha hb hab c hv a
  have ej := mv_at hm ha hb hab c hv j
  rw [if_pos rfl] at eb
  rw [if_neg hab] at ea
  have hj : ((mv m a b (-c) (mv m a b c v)).getD j 0 : Nat) = v.getD j 0 := by
    by_cases h : j = b
    · subst h
      rw [if_pos rfl, eb, ea] at e
      have hx : v.getD j 0 < m := h2 _ (by rw [List.getD_eq_getElem?_getD, List.getElem?_eq_getElem g2]; exact List.getElem_mem g2)
      have : (((v.getD j 0 : Nat) : Int) + c * ((v.getD a 0 : Nat) : Int)) % (m : Int) + -c * ((v.getD a 0 : Nat) : Int) = ((v.getD j 0 : Nat) : Int) + (m : Int) * -((((v.getD j 0 : Nat) : Int) + c * ((v.getD a 0 : Nat) : Int)) / (m : Int)) := by
        have := Int.emod_add_mul_ediv (((v.getD j 0 : Nat) : Int) + c * ((v.getD a 0 : Nat) : Int)) (m : Int)
        rw [Int.neg_mul, Int.mul_neg]; omega
      rw [this, Int.add_mul_emod_self_left, Int.emod_eq_of_lt (by omega) (by omega)] at e
      omega
    · rw [if_neg h] at e ej
      rw [ej] at e
      omega
  simpa [List.getD, g1, g2] using hj
theorem dot_col (M : Nat → Nat → Int) (r : Nat) (c : Int) {v : List Nat} (hv : v ∈ vecs m k) : (m : Int) ∣ dotV (M r) (mv m a b c v) k ↔ (m : Int) ∣ dotV (colAdd M a b c r) v k := by
  obtain ⟨q, hq⟩ : ∃ q, q = (((v.getD b 0 : Nat) : Int) + c * ((v.getD a 0 : Nat) : Int)) / (m : Int) := ⟨_, rfl⟩
  have he := Int.emod_add_mul_ediv (((v.getD b 0 : Nat) : Int) + c * ((v.getD a 0 : Nat) : Int)) (m : Int)
  rw [← hq] at he
  have e1 : dotV (M r) (mv m a b c v) k = dotV (M r) v k + M r b * (c * ((v.getD a 0 : Nat) : Int) - (m : Int) * q) := by
    unfold dotV
    rw [← sm_single hb (M r b * (c * ((v.getD a 0 : Nat) : Int) - (m : Int) * q)), ← sm_add]
    refine sm_congr (fun j _ => ?_)
    rw [mv_at hm ha hb hab c hv j]
    by_cases h : j = b
    · subst h
      rw [if_pos rfl, if_pos rfl, ← Int.mul_add]
      congr 1; omega
    · rw [if_neg h, if_neg h, Int.add_zero]
  have e2 : dotV (colAdd M a b c r) v k = dotV (M r) v k + c * M r b * ((v.getD a 0 : Nat) : Int) := by
    unfold dotV
    rw [← sm_single ha (c * M r b * ((v.getD a 0 : Nat) : Int)), ← sm_add]
    refine sm_congr (fun j _ => ?_)
    show (if j = a then _ else _) * _ = _
    by_cases h : j = a
    · subst h
      rw [if_pos rfl, if_pos rfl, Int.add_mul]
    · rw [if_neg h, if_neg h, Int.add_zero]
  have e3 : dotV (M r) (mv m a b c v) k = dotV (colAdd M a b c r) v k + (m : Int) * -(M r b * q) := by
    rw [e1, e2, Int.mul_sub, Int.mul_neg, ← Int.mul_assoc, Int.mul_comm (M r b) c, ← Int.mul_assoc (M r b), Int.mul_comm (M r b) (m : Int), Int.mul_assoc (m : Int)]
    omega
  rw [e3]
  exact ⟨fun h => by
    have := Int.dvd_sub h (Int.dvd_mul_right (m : Int) (-(M r b * q)))
    rwa [Int.add_sub_cancel] at this, fun h => Int.dvd_add h (Int.dvd_mul_right _ _)⟩
theorem cnt_col (M : Nat → Nat → Int) (n : Nat) (c : Int) : cntS (colAdd M a b c) n k m = cntS M n k m := by
  unfold cntS
  have hp : ((vecs m k).map (mv m a b c)).Perm (vecs m k) := by
    refine (List.perm_ext_iff_of_nodup ?_ (nodup_vecs m k)).2 (fun v => ⟨fun h => ?_, fun h => ?_⟩)
    · exact List.pairwise_map.2 (List.Pairwise.imp_of_mem (fun {u w} hu hw huw e => huw (by rw [← mv_back hm ha hb hab c hu, e, mv_back hm ha hb hab c hw])) (nodup_vecs m k))
    · obtain ⟨u, hu, rfl⟩ := List.mem_map.1 h
      exact mv_mem hm ha hb hab c hu
    · have := mv_back hm ha hb hab (-c) h
      rw [Int.neg_neg] at this
      exact List.mem_map.2 ⟨_, mv_mem hm ha hb hab (-c) h, this⟩
  rw [← (hp.filter (solB M n k m)).length_eq, List.filter_map, List.length_map]
  congr 1
  refine List.filter_congr (fun v hv => ?_)
  rw [Bool.eq_iff_iff]
  unfold solB
  simp only [List.all_eq_true, List.mem_range, decide_eq_true_eq, Function.comp]
  exact ⟨fun h r hr => (dot_col hm ha hb hab M r c hv).2 (h r hr), fun h r hr => (dot_col hm ha hb hab M r c hv).1 (h r hr)⟩
end
end Go.Proofs.Ytgjfpmjllpgadaa

/- The number of solutions and the divisors of minors of a diagonal matrix. Plain facts: nothing of the program is here. -/
set_option linter.unusedVariables false
set_option linter.unusedSimpArgs false
namespace Go.Proofs.Ytgjfpmjllpgadaa

theorem Eqv.cnt {n k m : Nat} {M N : Nat → Nat → Int} (hm : 1 ≤ m) (h : Eqv 0 n k M N) : cntS N n k m = cntS M n k m := by
  induction h with
  | refl => rfl
  | row _ hi hj hij c ih => rw [cnt_row hi.2 hj.2 hij c, ih]
  | col _ ha hb hab c ih => rw [cnt_col hm ha.2 hb.2 hab _ n c, ih]
/-- how many numbers below m satisfy p -/
def cntN (m : Nat) (p : Nat → Bool) : Nat := ((List.range m).filter p).length
def prdN (f : Nat → Nat) : Nat → Nat → Nat
  | _, 0 => 1
  | i, k + 1 => f i * prdN f (i + 1) k
def allV (p : Nat → Nat → Bool) : Nat → List Nat → Bool
  | _, [] => true
  | i, x :: v => p i x && allV p (i + 1) v
theorem flat_filter {m : Nat} {p : Nat → Nat → Bool} (i : Nat) (L : List (List Nat)) : ∀ l : List Nat, ((l.flatMap fun x => L.map (x :: ·)).filter (allV p i)).length = (l.filter (p i)).length * (L.filter (allV p (i + 1))).length
  | [] => by simp
  | x :: l => by
    rw [List.flatMap_cons, List.filter_append, List.length_append, flat_filter (m := m) i L l, List.filter_map, List.length_map, List.filter_cons]
    by_cases h : p i x = true
    · rw [if_pos h, List.length_cons, Nat.succ_mul, Nat.add_comm]
      congr 2
      refine List.filter_congr (fun v _ => ?_)
      show (p i x && _) = _
      rw [h, Bool.true_and]
    · rw [if_neg h]
      have : (L.filter ((allV p i) ∘ fun y => x :: y)) = [] := List.filter_eq_nil_iff.2 (fun v _ => by
        show ¬ (p i x && _) = true
        simp [h])
      rw [this]; simp
/-- independent conditions are counted one by one -/
theorem cnt_all {m : Nat} (p : Nat → Nat → Bool) : ∀ (k i : Nat), ((vecs m k).filter (allV p i)).length = prdN (fun i => cntN m (p i)) i k
  | 0, i => rfl
  | k + 1, i => by
    show ((vecs m (k + 1)).filter _).length = cntN m (p i) * prdN _ (i + 1) k
    rw [← cnt_all p k (i + 1)]
    exact flat_filter (m := m) i (vecs m k) (List.range m)
theorem allV_iff (p : Nat → Nat → Bool) : ∀ (v : List Nat) (i : Nat), allV p i v = true ↔ ∀ j, j < v.length → p (i + j) (v.getD j 0) = true
  | [], i => by simp [allV]
  | x :: v, i => by
    show (p i x && allV p (i + 1) v) = true ↔ _
    rw [Bool.and_eq_true, allV_iff p v (i + 1)]
    constructor
    · rintro ⟨h1, h2⟩ j hj
      match j with
      | 0 => exact h1
      | j + 1 => have := h2 j (by simpa using hj); rwa [show i + (j + 1) = i + 1 + j by omega]
    · intro h
      refine ⟨h 0 (by simp), fun j hj => ?_⟩
      have := h (j + 1) (by simpa using hj)
      rwa [show i + (j + 1) = i + 1 + j by omega] at this
/-- numbers below m whose multiple by d is a multiple of m -/
theorem cnt_mul (g : Nat) (hg : 0 < g) : ∀ t : Nat, ((List.range (g * t)).filter fun x => decide (g ∣ x)).length = t
  | 0 => by simp
  | t + 1 => by
    have ih := cnt_mul g hg t
    have e : List.range (g * (t + 1)) = List.range (g * t) ++ (List.range g).map (g * t + ·) := by
      rw [Nat.mul_succ, List.range_add]
    rw [e, List.filter_append, List.length_append, ih, List.filter_map, List.length_map]
    congr 1
    obtain ⟨g', rfl⟩ : ∃ g', g = g' + 1 := ⟨g - 1, by omega⟩
    rw [List.range_succ_eq_map, List.filter_cons, if_pos (by
      show decide ((g' + 1) ∣ (g' + 1) * t + 0) = true
      rw [decide_eq_true_eq]; exact Nat.dvd_mul_right _ _)]
    rw [List.filter_eq_nil_iff.2 (fun x hx => ?_)]
    · rfl
    · obtain ⟨y, hy, rfl⟩ := List.mem_map.1 hx
      have hy' := List.mem_range.1 hy
      show ¬ decide ((g' + 1) ∣ (g' + 1) * t + (y + 1)) = true
      rw [decide_eq_true_eq]
      intro hd
      have := (Nat.dvd_add_right (Nat.dvd_mul_right (g' + 1) t)).1 hd
      have := Nat.le_of_dvd (by omega) this
      omega
theorem cnt_gcd {m : Nat} (hm : 1 ≤ m) (d : Int) : cntN m (fun x => decide ((m : Int) ∣ d * (x : Int))) = Int.gcd d m := by
  obtain ⟨g, hg⟩ : ∃ g, g = Nat.gcd d.natAbs m := ⟨_, rfl⟩
  have hgp : 0 < g := by rw [hg]; exact Nat.gcd_pos_of_pos_right _ (by omega)
  obtain ⟨t, ht⟩ : g ∣ m := by rw [hg]; exact Nat.gcd_dvd_right _ _
  have htp : 0 < t := Nat.pos_of_ne_zero (fun e => by rw [e, Nat.mul_zero] at ht; omega)
  have hiff : ∀ x : Nat, (m : Int) ∣ d * (x : Int) ↔ t ∣ x := fun x => by
    rw [← Int.natAbs_dvd_natAbs, Int.natAbs_mul, Int.natAbs_natCast, Int.natAbs_natCast]
    obtain ⟨u, hu⟩ : g ∣ d.natAbs := by rw [hg]; exact Nat.gcd_dvd_left _ _
    have hco : Nat.Coprime t u := by
      have h1 : Nat.gcd (g * t) (g * u) = g * Nat.gcd t u := Nat.gcd_mul_left g t u
      rw [← ht, ← hu, Nat.gcd_comm, ← hg] at h1
      have : g * 1 = g * Nat.gcd t u := by omega
      exact (Nat.eq_of_mul_eq_mul_left hgp this).symm
    rw [ht, hu, Nat.mul_assoc]
    constructor
    · intro h
      have := Nat.dvd_of_mul_dvd_mul_left hgp h
      exact hco.dvd_of_dvd_mul_left this
    · intro h
      exact Nat.mul_dvd_mul_left g (Nat.dvd_trans h (Nat.dvd_mul_left _ _))
  have e : cntN m (fun x => decide ((m : Int) ∣ d * (x : Int))) = ((List.range (t * g)).filter fun x => decide (t ∣ x)).length := by
    unfold cntN
    rw [ht, Nat.mul_comm g t]
    congr 1
    refine List.filter_congr (fun x _ => ?_)
    rw [Nat.mul_comm t g, ← ht]
    exact decide_eq_decide.2 (hiff x)
  rw [e, cnt_mul t htp g, hg]
  show _ = Nat.gcd d.natAbs (m : Int).natAbs
  rw [Int.natAbs_natCast]
end Go.Proofs.Ytgjfpmjllpgadaa
