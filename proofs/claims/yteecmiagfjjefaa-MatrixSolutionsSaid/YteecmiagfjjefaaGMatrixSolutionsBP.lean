/- Counting with digits: the carry; a matrix given by rows. Plain facts: nothing of the program is here. -/
import Derived.Test.YteecmiagfjjefaaGMatrixSolutionsAP
import Derived.Test.YteecmiagfjjefaaGMatrixSolutionsBO
set_option linter.unusedVariables false
set_option linter.unusedSimpArgs false
namespace Go.Proofs.Yteecmiagfjjefaa

theorem inc_at {q : Nat} : ∀ (v : List Nat) (i : Nat), (∀ j, j < i → v.getD j 0 + 1 = q) → i < v.length → v.getD i 0 + 1 ≠ q → incV q v = List.replicate i 0 ++ (v.getD i 0 + 1) :: v.drop (i + 1)
  | x :: v, 0, _, _, h => by
    have h : x + 1 ≠ q := by simpa using h
    simp [incV, h]
  | x :: v, i + 1, h1, h2, h3 => by
    have h0 : x + 1 = q := by simpa using h1 0 (by omega)
    have ih := inc_at v i (fun j hj => by simpa using h1 (j + 1) (by omega)) (by simpa using h2) (by simpa using h3)
    unfold incV
    rw [if_pos h0, ih]
    simp [List.replicate_succ]
theorem valG_full {q : Nat} (hq : 1 ≤ q) : ∀ v : List Nat, (∀ j, j < v.length → v.getD j 0 + 1 = q) → valG q v + 1 = q ^ v.length
  | [], _ => by simp [valG]
  | x :: v, h => by
    have h0 : x + 1 = q := by simpa using h 0 (by simp)
    have ih := valG_full hq v (fun j hj => by simpa using h (j + 1) (by simpa using hj))
    show x + q * valG q v + 1 = q ^ (v.length + 1)
    rw [Nat.pow_succ, Nat.mul_comm (q ^ v.length), ← ih, Nat.mul_succ]
    omega
theorem dig_full {q k t : Nat} (hq : 1 ≤ q) (ht : t < q ^ k) (h : ∀ j, j < k → (dig q k t).getD j 0 + 1 = q) : t + 1 = q ^ k := by
  have hl := dig_len q k t
  have := valG_full hq (dig q k t) (fun j hj => h j (by omega))
  rw [valG_dig hq k t ht, hl] at this
  exact this
theorem dig_lt {q : Nat} (hq : 1 ≤ q) : ∀ (k t j : Nat), j < k → (dig q k t).getD j 0 < q
  | k + 1, t, 0, _ => by simpa [dig] using Nat.mod_lt t hq
  | k + 1, t, j + 1, h => by
    have := dig_lt hq k (t / q) j (by omega)
    simpa [dig] using this
theorem dig_zero {q : Nat} (hq : 1 ≤ q) : ∀ k, dig q k 0 = List.replicate k 0
  | 0 => rfl
  | k + 1 => by
    show 0 % q :: dig q k (0 / q) = _
    rw [Nat.zero_mod, Nat.zero_div, dig_zero hq k]; rfl
/-- at the last vector there is no carry left -/
theorem dig_last {q k t : Nat} (hq : 1 ≤ q) {j : Nat} (hj : j < k) (h : (dig q k t).getD j 0 + 1 ≠ q) (ht : t < q ^ k) : t + 1 < q ^ k := by
  rcases Nat.lt_or_ge (t + 1) (q ^ k) with h2 | h2
  · exact h2
  · exfalso
    have e : t + 1 = q ^ k := by omega
    clear ht h2
    revert t j
    induction k with
    | zero => intro t j hj; omega
    | succ k ih =>
      intro t j hj h e
      have e2 : t / q + 1 = q ^ k := by
        have hd := Nat.mod_add_div t q
        have hm := Nat.mod_lt t (show 0 < q by omega)
        rw [Nat.pow_succ, Nat.mul_comm] at e
        have : q ∣ t + 1 := ⟨q ^ k, e⟩
        have h3 : (t + 1) / q = q ^ k := by rw [e, Nat.mul_div_cancel_left _ (by omega)]
        rw [← h3]
        rw [Nat.succ_div_of_dvd this]
      match j, hj, h with
      | 0, _, h =>
        apply h
        show t % q + 1 = q
        have hd := Nat.mod_add_div t q
        rw [Nat.pow_succ, Nat.mul_comm, ← e2, Nat.mul_succ] at e
        omega
      | j + 1, hj, h => exact ih (j := j) (t := t / q) (by omega) (by simpa [dig] using h) e2
/-- the numbers of a vector as ints -/
def nvi (v : List Nat) : List Int := v.map fun (x : Nat) => (x : Int)
theorem nvi_len (v : List Nat) : (nvi v).length = v.length := by simp [nvi]
theorem nvi_get (v : List Nat) (i : Nat) : (nvi v).getD i 0 = ((v.getD i 0 : Nat) : Int) := by
  simp only [nvi, List.getD, List.getElem?_map]
  cases v[i]? <;> rfl
/-- the sum over the first i numbers of a row -/
def dotI (r : List Int) (v : List Nat) (i : Nat) : Int := sm (List.range i) fun j => r.getD j 0 * ((v.getD j 0 : Nat) : Int)
theorem dotI_succ (r : List Int) (v : List Nat) (i : Nat) : dotI r v (i + 1) = dotI r v i + r.getD i 0 * ((v.getD i 0 : Nat) : Int) := by
  unfold dotI
  rw [List.range_succ, sm_append]
  simp [sm]
theorem mul_bd100 {x : Int} {y q : Nat} (hx : -100 ≤ x ∧ x ≤ 100) (hy : y < q) (hq : q ≤ 13) : -1300 ≤ x * (y : Int) ∧ x * (y : Int) ≤ 1300 := by
  have h1 : (0 : Int) ≤ (y : Int) := by omega
  have h2 : (y : Int) ≤ 13 := by omega
  have h3 : -100 * (y : Int) ≤ x * (y : Int) := Int.mul_le_mul_of_nonneg_right hx.1 h1
  have h4 : x * (y : Int) ≤ 100 * (y : Int) := Int.mul_le_mul_of_nonneg_right hx.2 h1
  omega
theorem dotI_bd {r : List Int} {v : List Nat} {q : Nat} (hq : q ≤ 13) (hr : ∀ j, -100 ≤ r.getD j 0 ∧ r.getD j 0 ≤ 100) (hv : ∀ j, j < v.length → v.getD j 0 < q) : ∀ i, i ≤ v.length → -(1300 * (i : Int)) ≤ dotI r v i ∧ dotI r v i ≤ 1300 * (i : Int)
  | 0, _ => by simp [dotI, sm]
  | i + 1, h => by
    have ih := dotI_bd hq hr hv i (by omega)
    have := mul_bd100 (hr i) (hv i (by omega)) hq
    rw [dotI_succ]
    omega
/-- a vector of which the first i numbers were set to 0 -/
def curV (v : List Nat) (i : Nat) : List Nat := List.replicate i 0 ++ v.drop i
theorem curV_len {v : List Nat} {i : Nat} (h : i ≤ v.length) : (curV v i).length = v.length := by simp [curV]; omega
theorem curV_get {v : List Nat} {i : Nat} : (curV v i).getD i 0 = v.getD i 0 := by
  simp only [curV, List.getD]
  rw [List.getElem?_append_right (by simp)]
  simp
theorem curV_zero (v : List Nat) : curV v 0 = v := by simp [curV]
theorem curV_set {v : List Nat} {i : Nat} (h : i < v.length) : (nvi (curV v i)).set i 0 = nvi (curV v (i + 1)) := by
  unfold nvi curV
  rw [List.map_append, List.set_append_right _ _ (by simp), List.map_drop, List.drop_eq_getElem_cons (by simpa using h)]
  simp [List.replicate_succ', List.append_assoc]
theorem curV_inc {v : List Nat} {i q : Nat} (h0 : ∀ j, j < i → v.getD j 0 + 1 = q) (h : i < v.length) (h1 : v.getD i 0 + 1 ≠ q) : (nvi (curV v i)).set i (((v.getD i 0 : Nat) : Int) + 1) = nvi (incV q v) := by
  rw [inc_at v i h0 h h1]
  unfold nvi curV
  rw [List.map_append, List.set_append_right _ _ (by simp), List.map_drop, List.drop_eq_getElem_cons (by simpa using h)]
  simp [List.getD, h]
/-- a vector that some row does not map to a multiple of q -/
def badV (m : List (List Int)) (k q : Nat) (v : List Nat) : Bool := m.any fun r => decide (¬ (q : Int) ∣ dotI r v k)
end Go.Proofs.Yteecmiagfjjefaa
