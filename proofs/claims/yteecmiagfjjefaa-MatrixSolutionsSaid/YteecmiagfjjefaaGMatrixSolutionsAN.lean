/- The number of solutions and the divisors of minors of a diagonal matrix. Plain facts: nothing of the program is here. -/
import Derived.Test.YteecmiagfjjefaaGMatrixSolutionsAM
set_option linter.unusedVariables false
set_option linter.unusedSimpArgs false
namespace Go.Proofs.Yteecmiagfjjefaa

theorem Eqv.cnt {n k m : Nat} {M N : Nat → Nat → Int} (hm : 1 ≤ m) (h : Eqv 0 n k M N) : cntS N n k m = cntS M n k m := by
  induction h with
  | refl => rfl
  | row _ hi hj hij c ih => rw [cnt_row hi.2 hj.2 hij c, ih]
  | col _ ha hb hab c ih => rw [cnt_col hm ha.2 hb.2 hab _ n c, ih]
/-- how many numbers below m satisfy p -/
def cntN (m : Nat) (p : Nat → Bool) : Nat := ((List.range m).filter p).length
def prdN (f : Nat → Nat) : Nat → Nat → Nat
  | _, 0 => 1
  | i, k + 1 => f i * prdN f (i + 1) k
def allV (p : Nat → Nat → Bool) : Nat → List Nat → Bool
  | _, [] => true
  | i, x :: v => p i x && allV p (i + 1) v
theorem flat_filter {m : Nat} {p : Nat → Nat → Bool} (i : Nat) (L : List (List Nat)) : ∀ l : List Nat, ((l.flatMap fun x => L.map (x :: ·)).filter (allV p i)).length = (l.filter (p i)).length * (L.filter (allV p (i + 1))).length
  | [] => by simp
  | x :: l => by
    rw [List.flatMap_cons, List.filter_append, List.length_append, flat_filter (m := m) i L l, List.filter_map, List.length_map, List.filter_cons]
    by_cases h : p i x = true
    · rw [if_pos h, List.length_cons, Nat.succ_mul, Nat.add_comm]
      congr 2
      refine List.filter_congr (fun v _ => ?_)
      show (p i x && _) = _
      rw [h, Bool.true_and]
    · rw [if_neg h]
      have : (L.filter ((allV p i) ∘ fun y => x :: y)) = [] := List.filter_eq_nil_iff.2 (fun v _ => by
        show ¬ (p i x && _) = true
        simp [h])
      rw [this]; simp
/-- independent conditions are counted one by one -/
theorem cnt_all {m : Nat} (p : Nat → Nat → Bool) : ∀ (k i : Nat), ((vecs m k).filter (allV p i)).length = prdN (fun i => cntN m (p i)) i k
  | 0, i => rfl
  | k + 1, i => by
    show ((vecs m (k + 1)).filter _).length = cntN m (p i) * prdN _ (i + 1) k
    rw [← cnt_all p k (i + 1)]
    exact flat_filter (m := m) i (vecs m k) (List.range m)
theorem allV_iff (p : Nat → Nat → Bool) : ∀ (v : List Nat) (i : Nat), allV p i v = true ↔ ∀ j, j < v.length → p (i + j) (v.getD j 0) = true
  | [], i => by simp [allV]
  | x :: v, i => by
    show (p i x && allV p (i + 1) v) = true ↔ _
    rw [Bool.and_eq_true, allV_iff p v (i + 1)]
    constructor
    · rintro ⟨h1, h2⟩ j hj
      match j with
      | 0 => exact h1
      | j + 1 => have := h2 j (by simpa using hj); rwa [show i + (j + 1) = i + 1 + j by omega]
    · intro h
      refine ⟨h 0 (by simp), fun j hj => ?_⟩
      have := h (j + 1) (by simpa using hj)
      rwa [show i + (j + 1) = i + 1 + j by omega] at this
/-- numbers below m whose multiple by d is a multiple of m -/
theorem cnt_mul (g : Nat) (hg : 0 < g) : ∀ t : Nat, ((List.range (g * t)).filter fun x => decide (g ∣ x)).length = t
  | 0 => by simp
  | t + 1 => by
    have ih := cnt_mul g hg t
    have e : List.range (g * (t + 1)) = List.range (g * t) ++ (List.range g).map (g * t + ·) := by
      rw [Nat.mul_succ, List.range_add]
    rw [e, List.filter_append, List.length_append, ih, List.filter_map, List.length_map]
    congr 1
    obtain ⟨g', rfl⟩ : ∃ g', g = g' + 1 := ⟨g - 1, by omega⟩
    rw [List.range_succ_eq_map, List.filter_cons, if_pos (by
      show decide ((g' + 1) ∣ (g' + 1) * t + 0) = true
      rw [decide_eq_true_eq]; exact Nat.dvd_mul_right _ _)]
    rw [List.filter_eq_nil_iff.2 (fun x hx => ?_)]
    · rfl
    · obtain ⟨y, hy, rfl⟩ := List.mem_map.1 hx
      have hy' := List.mem_range.1 hy
      show ¬ decide ((g' + 1) ∣ (g' + 1) * t + (y + 1)) = true
      rw [decide_eq_true_eq]
      intro hd
      have := (Nat.dvd_add_right (Nat.dvd_mul_right (g' + 1) t)).1 hd
      have := Nat.le_of_dvd (by omega) this
      omega
theorem cnt_gcd {m : Nat} (hm : 1 ≤ m) (d : Int) : cntN m (fun x => decide ((m : Int) ∣ d * (x : Int))) = Int.gcd d m := by
  obtain ⟨g, hg⟩ : ∃ g, g = Nat.gcd d.natAbs m := ⟨_, rfl⟩
  have hgp : 0 < g := by rw [hg]; exact Nat.gcd_pos_of_pos_right _ (by omega)
  obtain ⟨t, ht⟩ : g ∣ m := by rw [hg]; exact Nat.gcd_dvd_right _ _
  have htp : 0 < t := Nat.pos_of_ne_zero (fun e => by rw [e, Nat.mul_zero] at ht; omega)
  have hiff : ∀ x : Nat, (m : Int) ∣ d * (x : Int) ↔ t ∣ x := fun x => by
    rw [← Int.natAbs_dvd_natAbs, Int.natAbs_mul, Int.natAbs_natCast, Int.natAbs_natCast]
    obtain ⟨u, hu⟩ : g ∣ d.natAbs := by rw [hg]; exact Nat.gcd_dvd_left _ _
    have hco : Nat.Coprime t u := by
      have h1 : Nat.gcd (g * t) (g * u) = g * Nat.gcd t u := Nat.gcd_mul_left g t u
      rw [← ht, ← hu, Nat.gcd_comm, ← hg] at h1
      have : g * 1 = g * Nat.gcd t u := by omega
      exact (Nat.eq_of_mul_eq_mul_left hgp this).symm
    rw [ht, hu, Nat.mul_assoc]
    constructor
    · intro h
      have := Nat.dvd_of_mul_dvd_mul_left hgp h
      exact hco.dvd_of_dvd_mul_left this
    · intro h
      exact Nat.mul_dvd_mul_left g (Nat.dvd_trans h (Nat.dvd_mul_left _ _))
  have e : cntN m (fun x => decide ((m : Int) ∣ d * (x : Int))) = ((List.range (t * g)).filter fun x => decide (t ∣ x)).length := by
    unfold cntN
    rw [ht, Nat.mul_comm g t]
    congr 1
    refine List.filter_congr (fun x _ => ?_)
    rw [Nat.mul_comm t g, ← ht]
    exact decide_eq_decide.2 (hiff x)
  rw [e, cnt_mul t htp g, hg]
  show _ = Nat.gcd d.natAbs (m : Int).natAbs
  rw [Int.natAbs_natCast]
end Go.Proofs.Yteecmiagfjjefaa
