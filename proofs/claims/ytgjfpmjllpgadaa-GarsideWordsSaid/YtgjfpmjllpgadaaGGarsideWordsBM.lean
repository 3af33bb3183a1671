/- Contracts by lists of functions on permutations: powers. No condition of its own. -/
import Derived.Test.YtgjfpmjllpgadaaGGarsideWordsBL
set_option linter.unusedVariables false
set_option linter.unusedSimpArgs false
namespace Go.Proofs.Ytgjfpmjllpgadaa
open Go.RowKit

theorem itr_comp (B : Nat → Nat) (n a b : Nat) : tab n (fun i => itr B a (itr B b i)) = tab n (itr B (b + a)) := tab_ext (fun i _ => (itr_add B b a i).symm)
theorem itr_id (B : Nat → Nat) (n : Nat) : tab n (itr B 0) = tab n id := tab_ext (fun i _ => rfl)
theorem itr_1 (B : Nat → Nat) (n : Nat) : tab n (itr B 1) = tab n B := tab_ext (fun i _ => rfl)
theorem permFault_pm {xs : List Int} (h : permFault xs = 0) : xs.length ≤ 9 ∧ Pm xs := by
  obtain ⟨h1, h2, h3⟩ := permFault_range h
  exact ⟨h1, h2, h3⟩
theorem order_bd {xs : List Int} (h : permFault xs = 0) : 1 ≤ orderOf xs ∧ orderOf xs ≤ 2520 := by
  obtain ⟨h9, hr, _⟩ := permFault_range h
  exact ordAt_bd (fun c hc => by have := cyclesOf_lens hr c hc; omega) _ (Nat.le_refl _)
/-- R.Times from the head of its loop on, for whatever map -/
def powT (xs : List Int) (k : Int) : List Int := if 0 ≤ k then tab xs.length (itr (fn xs) k.toNat) else tab xs.length (itr (gn xs) (-k).toNat)
theorem g_all {xs : List Int} (hp : Pm xs) (ho : 1 ≤ orderOf xs) : ∀ i, i < xs.length → gn xs i < xs.length ∧ fn xs (gn xs i) = i ∧ gn xs (fn xs i) = i :=
  fun i hi => ⟨gn_lt hp i hi, fn_gn hp ho hi, gn_fn hp ho hi⟩
end Go.Proofs.Ytgjfpmjllpgadaa
