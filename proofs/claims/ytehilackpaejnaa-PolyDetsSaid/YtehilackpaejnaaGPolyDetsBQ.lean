/- The terms of a polynomial in order; products by terms. No condition of its own. -/
import Derived.Test.YtehilackpaejnaaGPolyDetsBO
set_option linter.unusedVariables false
set_option linter.unusedSimpArgs false
namespace Go.Proofs.Ytehilackpaejnaa
open Go.RowKit

theorem spl_some {p : Po} {e : Int} (h : (spl p e).isSome = true) : p.1 ≤ e ∧ e < p.1 + p.2.length := by
  unfold spl at h
  split at h
  · cases h
  · rename_i h0; exact co_in h0
/-- the terms of a polynomial, in order -/
def enl (a : Po) : Nat → List (Int × Int)
  | 0 => []
  | n + 1 => enl a n ++ (if a.2.getD n 0 = 0 then [] else [(a.1 + n, a.2.getD n 0)])
theorem enl_mem {a : Po} : ∀ {n : Nat} {y : Int × Int}, y ∈ enl a n → ∃ r, r < n ∧ y = (a.1 + (r : Int), a.2.getD r 0) ∧ a.2.getD r 0 ≠ 0
  | 0, _, h => by cases h
  | n + 1, y, h => by
    simp only [enl] at h
    rcases List.mem_append.1 h with h | h
    · obtain ⟨r, h1, h2, h3⟩ := enl_mem h
      exact ⟨r, by omega, h2, h3⟩
    · split at h
      · cases h
      · rename_i h0
        rw [List.mem_singleton] at h
        exact ⟨n, by omega, h, h0⟩
theorem enl_in {a : Po} : ∀ {n r : Nat}, r < n → a.2.getD r 0 ≠ 0 → (a.1 + (r : Int), a.2.getD r 0) ∈ enl a n
  | n + 1, r, h, h0 => by
    simp only [enl]
    by_cases e : r = n
    · subst e
      rw [if_neg h0]
      exact List.mem_append.2 (.inr (by simp))
    · exact List.mem_append.2 (.inl (enl_in (by omega) h0))
theorem enl_nodup (a : Po) : ∀ n : Nat, ((enl a n).map (·.1)).Nodup
  | 0 => List.nodup_nil
  | n + 1 => by
    simp only [enl, List.map_append]
    rw [List.nodup_append]
    refine ⟨enl_nodup a n, by split <;> simp, fun x hx y hy => ?_⟩
    obtain ⟨z, hz, rfl⟩ := List.mem_map.1 hx
    obtain ⟨r, h1, h2, _⟩ := enl_mem hz
    split at hy
    · cases hy
    · simp at hy
      rw [hy, h2]; simp only; omega
theorem enl_enum (a : Po) : Enum (spl a) (enl a a.2.length) := by
  refine ⟨fun y hy => ?_, enl_nodup a _⟩
  obtain ⟨r, h1, h2, h3⟩ := enl_mem hy
  subst h2
  unfold spl
  simp only [co_at, if_neg h3]
theorem enl_full (a : Po) : Full (spl a) (enl a a.2.length) := by
  intro k c hk
  unfold spl at hk
  split at hk
  · cases hk
  · rename_i h0
    cases hk
    have h1 := co_in h0
    have h2 := co_at a (k - a.1).toNat
    rw [show a.1 + ((k - a.1).toNat : Int) = k by omega] at h2
    have := enl_in (a := a) (n := a.2.length) (r := (k - a.1).toNat) (by omega) (by rw [← h2]; exact h0)
    rw [show a.1 + ((k - a.1).toNat : Int) = k by omega, ← h2] at this
    exact this
theorem enl_sum (a b : Po) (x : Int) : ∀ n : Nat, ((enl a n).map fun y => y.2 * tv (spl b) (x - y.1)).sum = cvn a b n x
  | 0 => rfl
  | n + 1 => by
    simp only [enl, List.map_append, List.sum_append]
    rw [enl_sum a b x n, cvn_succ]
    congr 1
    split
    · rename_i h; rw [h]; simp
    · simp [tv_spl, Int.sub_sub]
theorem tmul_spl (a b : Po) : tv (tmul (spl a) (spl b)) = pmul a b := by
  funext x
  rw [tmul_eq (enl_enum a) (enl_full a), tv_gM, enl_sum]
  rfl
theorem spl_len {a : Po} {ps : List (Int × Int)} (h : Enum (spl a) ps) : ps.length ≤ a.2.length := by
  have := nodup_bd a.2.length a.1 (ps.map (·.1)) h.2 (fun x hx => by
    obtain ⟨y, hy, rfl⟩ := List.mem_map.1 hx
    exact spl_some (by rw [h.1 y hy]; rfl))
  simpa using this
end Go.Proofs.Ytehilackpaejnaa
