/-
  Untangling: the operations that lead a fraction to 0. Plain facts.
-/
import Derived.Test.YthkbcgggbgkfmaaTApply
set_option linter.unusedVariables false
namespace Go.Proofs.Ythkbcgggbgkfmaa

/-- The integer next to p. -/
def kf (p : Int × Int) : Int := if 0 < p.2 then (2 * p.1 + p.2) / (2 * p.2) else 0
def pre (p : Int × Int) : List Int := if kf p = 0 then [] else [-kf p]
def nxt (p : Int × Int) : Int × Int := plusF p (-kf p)
def und : Nat → Int × Int → List Int
  | 0, _ => []
  | f + 1, p => if p.1 = 0 then [] else pre p ++ (if (nxt p).1 = 0 then [] else 0 :: und f (trn (nxt p)))
def mu (p : Int × Int) : Nat := if p.1 = 0 then 0 else p.2.toNat + 1
/-- A right fraction. -/
def Rt (p : Int × Int) : Prop := Norm p ∧ (-1000000 ≤ p.1 ∧ p.1 ≤ 1000000) ∧ p.2 ≤ 1000000
theorem rt_fault {p : Int × Int} (h : Rt p) : faultF p.1 p.2 = 0 := by
  obtain ⟨⟨h1, h2, h3⟩, ⟨h4, h5⟩, h6⟩ := h
  apply fault_ok
  · unfold bigI; omega
  · rintro (c | ⟨c, c2⟩ | c)
    · omega
    · exact c2 (h2 c)
    · exact c h3
theorem fault_rt {n d : Int} (h : faultF n d = 0) : Rt (n, d) := by
  obtain ⟨h1, h2, h3⟩ := fault_zero h
  exact ⟨h3, h1, h2.2⟩
theorem kf_spec {p : Int × Int} (hd : 0 < p.2) : 2 * (kf p * p.2) ≤ 2 * p.1 + p.2 ∧ 2 * p.1 + p.2 < 2 * (kf p * p.2) + 2 * p.2 := by
  unfold kf; rw [if_pos hd]
  have h1 := Int.emod_add_mul_ediv (2 * p.1 + p.2) (2 * p.2)
  have h2 := Int.emod_nonneg (2 * p.1 + p.2) (show 2 * p.2 ≠ 0 by omega)
  have h3 := Int.emod_lt_of_pos (2 * p.1 + p.2) (show 0 < 2 * p.2 by omega)
  generalize (2 * p.1 + p.2) / (2 * p.2) = k at *
  generalize (2 * p.1 + p.2) % (2 * p.2) = r at *
  have h4 : 2 * p.2 * k = 2 * (k * p.2) := by rw [Int.mul_assoc, Int.mul_comm p.2 k]
  omega
theorem kf_uniq {p : Int × Int} {k : Int} (hd : 0 < p.2) (h1 : 2 * (k * p.2) ≤ 2 * p.1 + p.2) (h2 : 2 * p.1 + p.2 < 2 * (k * p.2) + 2 * p.2) : k = kf p := by
  obtain ⟨s1, s2⟩ := kf_spec hd
  apply Classical.byContradiction; intro c
  rcases Int.lt_or_gt_of_ne c with c | c
  · have h : (k + 1) * p.2 ≤ kf p * p.2 := Int.mul_le_mul_of_nonneg_right (by omega) (by omega)
    rw [Int.add_mul, Int.one_mul] at h; omega
  · have h : (kf p + 1) * p.2 ≤ k * p.2 := Int.mul_le_mul_of_nonneg_right (by omega) (by omega)
    rw [Int.add_mul, Int.one_mul] at h; omega
theorem kf_bd {p : Int × Int} (h : Rt p) : -1000000 ≤ kf p ∧ kf p ≤ 1000000 := by
  obtain ⟨⟨h1, h2, h3⟩, ⟨h4, h5⟩, h6⟩ := h
  by_cases hd : 0 < p.2
  · obtain ⟨s1, s2⟩ := kf_spec hd
    constructor
    · apply Classical.byContradiction; intro c
      have h : kf p * p.2 ≤ (-1000001) * p.2 := Int.mul_le_mul_of_nonneg_right (by omega) (by omega)
      omega
    · apply Classical.byContradiction; intro c
      have h : 1000001 * p.2 ≤ kf p * p.2 := Int.mul_le_mul_of_nonneg_right (by omega) (by omega)
      omega
  · unfold kf; rw [if_neg hd]; omega
theorem nxt_bd {p : Int × Int} (h : Rt p) (hd : 0 < p.2) : -p.2 ≤ 2 * (nxt p).1 ∧ 2 * (nxt p).1 ≤ p.2 := by
  obtain ⟨s1, s2⟩ := kf_spec hd
  have e : (nxt p).1 = p.1 - kf p * p.2 := by show p.1 + -kf p * p.2 = _; rw [Int.neg_mul]; omega
  rw [e]; omega
theorem nxt_zero {p : Int × Int} (h : Rt p) (hd : ¬ 0 < p.2) : p = (1, 0) ∧ nxt p = (1, 0) ∧ kf p = 0 := by
  obtain ⟨⟨h1, h2, h3⟩, _, h6⟩ := h
  obtain ⟨n, d⟩ := p
  simp only at *
  obtain rfl : d = 0 := by omega
  obtain rfl := h2 rfl
  exact ⟨rfl, rfl, rfl⟩
theorem nxt_rt {p : Int × Int} (h : Rt p) : Rt (nxt p) := by
  refine ⟨plus_norm h.1 _, ?_, h.2.2⟩
  by_cases hd : 0 < p.2
  · have := nxt_bd h hd
    have := h.2.2
    omega
  · rw [(nxt_zero h hd).2.1]; omega
theorem trn_rt {p : Int × Int} (h : Rt p) : Rt (trn p) := by
  refine ⟨trn_norm h.1, ?_⟩
  obtain ⟨⟨h1, h2, h3⟩, ⟨h4, h5⟩, h6⟩ := h
  unfold trn
  by_cases c : p.1 < 0
  · rw [if_pos c]; simp only; omega
  · by_cases c0 : p.1 = 0
    · rw [if_neg c, if_pos c0]; simp only; omega
    · rw [if_neg c, if_neg c0]; simp only; omega
theorem mu_nxt {p : Int × Int} (h : Rt p) (h0 : p.1 ≠ 0) (h1 : (nxt p).1 ≠ 0) : mu (trn (nxt p)) < mu p := by
  by_cases hd : 0 < p.2
  · have hb := nxt_bd h hd
    have e2 : (nxt p).2 = p.2 := rfl
    unfold mu
    rw [if_neg h0]
    unfold trn
    by_cases c : (nxt p).1 < 0
    · rw [if_pos c]; simp only; split <;> omega
    · rw [if_neg c, if_neg h1]; simp only; split <;> omega
  · obtain ⟨e1, e2, _⟩ := nxt_zero h hd
    rw [e2, e1]; decide
theorem mu_nxt0 {p : Int × Int} (h0 : p.1 ≠ 0) (h1 : (nxt p).1 = 0) : mu (nxt p) < mu p := by
  unfold mu; rw [if_neg h0, if_pos h1]; omega
theorem und_any : ∀ (f f' : Nat) (p : Int × Int), Rt p → mu p ≤ f → mu p ≤ f' → und f p = und f' p
  | 0, 0, _, _, _, _ => rfl
  | 0, f' + 1, p, _, h, _ => by
    have e : p.1 = 0 := by unfold mu at h; split at h <;> omega
    simp [und, e]
  | f + 1, 0, p, _, _, h => by
    have e : p.1 = 0 := by unfold mu at h; split at h <;> omega
    simp [und, e]
  | f + 1, f' + 1, p, hr, h, h' => by
    unfold und
    by_cases e : p.1 = 0
    · rw [if_pos e, if_pos e]
    · rw [if_neg e, if_neg e]
      by_cases e1 : (nxt p).1 = 0
      · rw [if_pos e1, if_pos e1]
      · rw [if_neg e1, if_neg e1]
        have := mu_nxt hr e e1
        rw [und_any f f' _ (trn_rt (nxt_rt hr)) (by omega) (by omega)]
/-- All operations for p. -/
def untie (p : Int × Int) : List Int := und (mu p) p
theorem untie_zero {p : Int × Int} (h : p.1 = 0) : untie p = [] := by
  unfold untie mu; rw [if_pos h]; rfl
theorem untie_end {p : Int × Int} (h0 : p.1 ≠ 0) (h1 : (nxt p).1 = 0) : untie p = pre p := by
  unfold untie mu; rw [if_neg h0]; unfold und; rw [if_neg h0, if_pos h1]; simp
theorem untie_go {p : Int × Int} (hr : Rt p) (h0 : p.1 ≠ 0) (h1 : (nxt p).1 ≠ 0) : untie p = pre p ++ 0 :: untie (trn (nxt p)) := by
  have hm := mu_nxt hr h0 h1
  have e : untie p = und (p.2.toNat + 1) p := by unfold untie mu; rw [if_neg h0]
  rw [e]; conv => lhs; unfold und
  rw [if_neg h0, if_neg h1]
  have : mu p = p.2.toNat + 1 := by unfold mu; rw [if_neg h0]
  unfold untie
  rw [und_any p.2.toNat (mu (trn (nxt p))) _ (trn_rt (nxt_rt hr)) (by omega) (Nat.le_refl _)]
theorem und_len : ∀ (f : Nat) (p : Int × Int), (und f p).length ≤ 2 * f
  | 0, p => by simp [und]
  | f + 1, p => by
    unfold und
    have := und_len f (trn (nxt p))
    have hp : (pre p).length ≤ 1 := by unfold pre; split <;> simp
    split
    · simp
    · rw [List.length_append]; split
      · simp; omega
      · simp only [List.length_cons]; omega
theorem untie_len {p : Int × Int} (h : Rt p) : (untie p).length ≤ 2000002 := by
  have h1 := und_len (mu p) p
  have h2 := h.2.2
  have : mu p ≤ 1000001 := by unfold mu; split <;> omega
  unfold untie; omega
theorem und_mem : ∀ (f : Nat) (p : Int × Int), Rt p → ∀ x ∈ und f p, -1000000 ≤ x ∧ x ≤ 1000000
  | 0, p, _, x, hx => by simp [und] at hx
  | f + 1, p, hr, x, hx => by
    unfold und at hx
    have hk := kf_bd hr
    split at hx
    · cases hx
    · rcases List.mem_append.1 hx with hx | hx
      · unfold pre at hx
        split at hx
        · cases hx
        · obtain rfl := List.mem_singleton.1 hx; omega
      · split at hx
        · cases hx
        · rcases List.mem_cons.1 hx with hx | hx
          · subst hx; omega
          · exact und_mem f _ (trn_rt (nxt_rt hr)) x hx
theorem untie_mem {p : Int × Int} (h : Rt p) : ∀ x ∈ untie p, -1000000 ≤ x ∧ x ≤ 1000000 := und_mem _ p h
end Go.Proofs.Ythkbcgggbgkfmaa
