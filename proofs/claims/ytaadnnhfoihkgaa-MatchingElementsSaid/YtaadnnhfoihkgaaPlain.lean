/-
  Plain facts on lists and numbers that the walks use; nothing of the program is here.
-/
import Derived.Calls
set_option linter.unusedVariables false
set_option linter.unusedSimpArgs false
namespace Go.Proofs.Ytaadnnhfoihkgaa

/-- The first value of f below n that is not 0, else 0. -/
def firstNZ (f : Nat → Int) : Nat → Int
  | 0 => 0
  | n + 1 => if firstNZ f n = 0 then f n else firstNZ f n

theorem firstNZ_zero {f : Nat → Int} {n : Nat} (h : ∀ j, j < n → f j = 0) : firstNZ f n = 0 := by
  induction n with
  | zero => rfl
  | succ n ih => simp [firstNZ, ih (fun j hj => h j (by omega)), h n (by omega)]

theorem firstNZ_at {f : Nat → Int} {n k : Nat} (hk : k < n) (h : ∀ j, j < k → f j = 0) (hf : f k ≠ 0) : firstNZ f n = f k := by
  induction n with
  | zero => omega
  | succ n ih =>
    by_cases e : k = n
    · subst e; simp [firstNZ, firstNZ_zero h]
    · have := ih (by omega)
      simp [firstNZ, this, hf]

theorem firstNZ_zero_iff {f : Nat → Int} {n : Nat} : firstNZ f n = 0 ↔ ∀ j, j < n → f j = 0 := by
  refine ⟨fun h => ?_, firstNZ_zero⟩
  induction n with
  | zero => intro j hj; omega
  | succ n ih =>
    simp only [firstNZ] at h
    split at h
    · rename_i h0
      intro j hj
      by_cases e : j = n
      · subst e; exact h
      · exact ih h0 j (by omega)
    · contradiction


theorem getD_lt {α : Type} {xs : List α} {k : Nat} (d : α) (h : k < xs.length) : xs.getD k d = xs[k] := by
  simp [List.getD, List.getElem?_eq_getElem h]

end Go.Proofs.Ytaadnnhfoihkgaa
