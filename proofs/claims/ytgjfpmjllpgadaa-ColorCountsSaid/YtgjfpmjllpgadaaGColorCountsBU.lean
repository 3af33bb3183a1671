/- intmatrix.Smith and Det; the reckoned example of the laws. No condition of its own. -/
import Derived.Test.YtgjfpmjllpgadaaGColorCountsBT
import Derived.Test.YtgjfpmjllpgadaaGColorCountsBK
set_option linter.unusedVariables false
set_option linter.unusedSimpArgs false
namespace Go.Proofs.Ytgjfpmjllpgadaa
open Go.RowKit

def gl : List Nat → Nat
  | [] => 0
  | x :: l => Nat.gcd x (gl l)
theorem gl_dvd (g : Nat) : ∀ l, g ∣ gl l ↔ ∀ x ∈ l, g ∣ x
  | [] => by simp [gl]
  | x :: l => by simp only [gl, Nat.dvd_gcd_iff, gl_dvd g l, List.mem_cons, forall_eq_or_imp]
/-- all minors of a size, in order -/
def minors (m : List (List Int)) (n k q : Nat) : List Nat := (List.range (2 ^ n)).flatMap fun R => (List.range (2 ^ k)).flatMap fun C => if (bitsL R n).length = q ∧ (bitsL C k).length = q then [(lap (ent m) (bitsL R n) (bitsL C k)).natAbs] else []
def gD (m : List (List Int)) (n k q : Nat) : Nat := gl (minors m n k q)
theorem gD_dv (m : List (List Int)) (n k : Nat) : Dv m n k (gD m n k) := fun q g => by
  unfold gD
  rw [gl_dvd]
  constructor
  · intro h rs cs h1 h2
    obtain ⟨R, r1, r2⟩ := sub_mask h1
    obtain ⟨C, c1, c2⟩ := sub_mask h2
    rw [Int.ofNat_dvd_left]
    refine h _ (List.mem_flatMap.2 ⟨R, List.mem_range.2 r1, List.mem_flatMap.2 ⟨C, List.mem_range.2 c1, ?_⟩⟩)
    rw [r2, c2, if_pos ⟨h1.2.2, h2.2.2⟩]
    simp
  · intro h x hx
    obtain ⟨R, r1, hx⟩ := List.mem_flatMap.1 hx
    obtain ⟨C, c1, hx⟩ := List.mem_flatMap.1 hx
    by_cases c : (bitsL R n).length = q ∧ (bitsL C k).length = q
    · rw [if_pos c] at hx
      obtain rfl := List.mem_singleton.1 hx
      rw [← Int.ofNat_dvd_left]
      exact h _ _ (c.1 ▸ bits_sub R n) (c.2 ▸ bits_sub C k)
    · rw [if_neg c] at hx; cases hx
theorem facs_len (D : Nat → Nat) (n : Nat) : (facs D n).length = n := by simp [facs]
end Go.Proofs.Ytgjfpmjllpgadaa

/- The law MatrixDets holds for all matrices. No condition of its own. -/
set_option linter.unusedVariables false
set_option linter.unusedSimpArgs false
namespace Go.Proofs.Ytgjfpmjllpgadaa
open Go.RowKit

/-- the capacities forgotten, two levels deep -/
def PV.nrm1 : PV → PV
  | .lst _ sz n cs => .lst false sz n (cs.map PV.nrm0)
  | p => p
theorem V.nrm1 {ρ : Pl} {Z : Nat → Prop} {w : World} {p : PV} {u : Value} (h : V ρ Z w p u) : V ρ Z w p.nrm1 u := by
  unfold PV.nrm1
  split
  · obtain ⟨cap, A, f, rfl, g1, g2, g3, g4, g5, g6⟩ := h.lst_inv
    refine .lst _ _ _ cap _ _ f g1 (fun hh => by cases hh) g3 (by rw [List.length_map]; exact g4) (fun hne => ?_) (fun i hi => ?_)
    · obtain ⟨b, o, k1, k2, k3, k4⟩ := g5 (fun e => hne (by rw [e]; rfl))
      exact ⟨b, o, k1, k2, k3, fun i hi => k4 i (by simpa using hi)⟩
    · rw [List.length_map] at hi
      have := (g6 i hi).nrm0
      simp only [List.getD, List.getElem?_map, List.getElem?_eq_getElem hi, Option.map_some, Option.getD_some] at this ⊢
      exact this
  · exact h
/-- a contract for arguments whose capacities are forgotten -/
theorem SC.nrmA {P : Program} {f : FuncId} {args : List PV} {r : PV} (h : SC P f (args.map PV.nrm1) r) : SC P f args r :=
  ⟨h.1, fun Z w vs hz hvs hv => h.2 Z w vs hz (by simpa using hvs) (fun i hi => by
    have hi' : i < args.length := by simpa using hi
    have := (hv i hi').nrm1
    rw [show (args.map PV.nrm1).getD i .junk = (args.getD i .junk).nrm1 by simp [List.getD, hi']]
    exact this)⟩
def mEx : List (List Int) := [[2, 0], [0, 3]]
end Go.Proofs.Ytgjfpmjllpgadaa
