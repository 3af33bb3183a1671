/- Alexander polynomials: the word [1, 1, 1], the value at -1. Plain facts: nothing of the program is here. -/
import Derived.Test.YtenoiklocdoemaaGAlexanderMinorsBX
import Derived.Test.YtenoiklocdoemaaGAlexanderMinorsBI
import Derived.RangeFuncBox
import Derived.RangeFuncLeaves
import Derived.RangeFuncNested
import Derived.Shelf.Abstract
import Derived.WalkKit
import Derived.OwnWalkIn
import Derived.TacticsInMore
import Derived.LoopNIn
import Derived.LoopIn
import Derived.Maps.AppendAt
import Derived.Test.YtenoiklocdoemaaGAlexanderMinorsAB
set_option linter.unusedVariables false
set_option linter.unusedSimpArgs false
namespace Go.Proofs.Ytenoiklocdoemaa
open Go.RowKit

theorem P_mul (a : LP) (e : Int) : ((LP.mono 1 0 + LP.mono (-1) 1) * a).f e = a.f e - a.f (e - 1) := by
  rw [LP.add_mul, LP.add_f, LP.mono_mul, LP.mono_mul, Int.sub_zero]; omega
theorem MA_ex : MA [1, 1, 1] 0 0 = LP.mono 1 1 + LP.mono (-1) 2 + LP.mono 1 3 := by
  have s0 : ∀ (A : Nat → Nat → LP), stepM A 1 0 0 = A 0 0 * (LP.mono 1 0 + LP.mono (-1) 1) + A 0 1 * 1 := fun A => rfl
  have s1 : ∀ (A : Nat → Nat → LP), stepM A 1 0 1 = A 0 0 * LP.mono 1 1 + A 0 1 * 0 := fun A => rfl
  have hb : burM [1, 1, 1] 0 0 = stepM (stepM (stepM unitM 1) 1) 1 0 0 := rfl
  have u0 : unitM 0 0 = 1 := rfl
  have u1 : unitM 0 1 = 0 := rfl
  refine LP.ext fun e => ?_
  unfold MA
  rw [hb]
  simp only [s0, s1, u0, u1, LP.one_mul, LP.zero_mul, LP.add_zero, LP.mul_one, LP.mul_zero]
  rw [LP.mul_comm (_ + LP.mono 1 1) (LP.mono 1 0 + LP.mono (-1) 1), LP.add_f, LP.smul_f, LP.add_f, P_mul, P_mul, LP.add_f, LP.add_f, P_mul, P_mul, LP.one_eq]
  simp only [LP.add_f, LP.mono_f]
  repeat' split
  all_goals omega
theorem poW_ex : poW (LP.mono 1 1 + LP.mono (-1) 2 + LP.mono 1 3) = (1, [1, -1, 1]) := by
  refine cano_eq (.inr ⟨by simp, by simp, by simp⟩) (fun e => ?_)
  rw [LP.add_f, LP.add_f, LP.mono_f, LP.mono_f, LP.mono_f]
  by_cases h1 : e = 1
  · subst h1; rfl
  · by_cases h2 : e = 2
    · subst h2; rfl
    · by_cases h3 : e = 3
      · subst h3; rfl
      · rw [if_neg h1, if_neg h2, if_neg h3]
        by_cases h4 : e < 1
        · rw [co_lo (by simpa using h4)]; rfl
        · rw [co_hi (by simp; omega)]; rfl
theorem alL_ex : alL 2 [1, 1, 1] = LP.mono 1 1 + LP.mono (-1) 2 + LP.mono 1 3 := by
  have h : alL 2 [1, 1, 1] = lapP (MA [1, 1, 1]) [0] [0] := rfl
  rw [h]
  simp only [lapP, altsP, List.nil_append, List.append_nil, LP.mul_one, LP.add_zero, show sgn 0 = 1 from rfl, LP.smul_one]
  exact MA_ex
theorem alF_ex : alF 2 [1, 1, 1] = 0 := by
  have h : bF 2 [1, 1, 1] = 0 := by decide
  unfold alF
  rw [if_neg (by rw [h]; simp), if_neg (by simp)]
theorem alR_ex : alR 2 [1, 1, 1] = (0, [1, -1, 1]) := by
  unfold alR
  rw [if_pos alF_ex, show (2 : Int).toNat = 2 from rfl, alL_ex, poW_ex]
  rfl
/-- the determinant -/
noncomputable def alD (n : Int) (w : List Int) : Int := if alF n w = 0 then (if atV (alR n w).2 (alR n w).2.length < wrp (-(atV (alR n w).2 (alR n w).2.length)) then wrp (-(atV (alR n w).2 (alR n w).2.length)) else atV (alR n w).2 (alR n w).2.length) else 0
end Go.Proofs.Ytenoiklocdoemaa

/- alexander.Determinant. No condition of its own. -/
set_option linter.unusedVariables false
set_option linter.unusedSimpArgs false
namespace Go.Proofs.Ytenoiklocdoemaa
open Go.RowKit

set_option maxHeartbeats 4000000 in
set_option maxRecDepth 100000 in
theorem alexD_s (n : Int) (w : List Int) (hl : (alR n w).2.length ≤ 10000) (h0 : (alR n w).1 = 0) (hF : 0 ≤ alF n w ∧ alF n w ≤ 3) : SC Try.prog 23 [pint n, pli w] (.tup [pint (alD n w), pint (alF n w)]) := by
  have k1 := alexP_s n w
  obtain ⟨c, hc⟩ : ∃ c, c = (alR n w).2 := ⟨_, rfl⟩
  have hR : alR n w = (0, c) := by rw [hc, ← h0]
  have hD : alD n w = if alF n w = 0 then (if atV c c.length < wrp (-(atV c c.length)) then wrp (-(atV c c.length)) else atV c c.length) else 0 := by unfold alD; rw [← hc]
  rw [← hc] at hl
  have k2 := atV_s c hl
  rw [hR] at k1
  rw [hD]
  clear hD hR hc h0
  generalize alF n w = E at *
  generalize atV c c.length = v at *
  refine SC.go {} tok mixed Try.func23 rfl rfl Try.ntmps23 rfl rfl (by kernel_rfl) ?_
  first | simp only [updS] | simp only [updL, Nat.reduceAdd]
  repeat (first | refine S0 ?_ | refine S1 ?_ | refine S2 ?_ | refine S5 ?_ | refine S7 ?_ | refine S8 ?_ | refine S9 ?_ | refine S15 ?_ | refine S16 ?_ | refine S19 ?_ | refine S20 ?_ | refine S29 ?_ | refine S34 ?_ | refine S48 ?_ | refine S54 ?_ | refine S66 ?_ | refine S68 ?_)
  refine Scall (args := [pint n, pli w]) k1 ?_
  repeat (first | refine S0 ?_ | refine S1 ?_ | refine S2 ?_ | refine S5 ?_ | refine S7 ?_ | refine S8 ?_ | refine S9 ?_ | refine S15 ?_ | refine S16 ?_ | refine S19 ?_ | refine S20 ?_ | refine S29 ?_ | refine S34 ?_ | refine S48 ?_ | refine S54 ?_ | refine S66 ?_ | refine S68 ?_)
  by_cases h : E = 0
  · subst h
    rw [if_pos rfl]
    repeat (first | refine S0 ?_ | refine S1 ?_ | refine S2 ?_ | refine S5 ?_ | refine S7 ?_ | refine S8 ?_ | refine S9 ?_ | refine S15 ?_ | refine S16 ?_ | refine S19 ?_ | refine S20 ?_ | refine S29 ?_ | refine S34 ?_ | refine S48 ?_ | refine S54 ?_ | refine S66 ?_ | refine S68 ?_)
    refine Scall (args := [ppo (0, c), pint (-1)]) k2 ?_
    repeat (first | refine S0 ?_ | refine S1 ?_ | refine S2 ?_ | refine S5 ?_ | refine S7 ?_ | refine S8 ?_ | refine S9 ?_ | refine S15 ?_ | refine S16 ?_ | refine S19 ?_ | refine S20 ?_ | refine S29 ?_ | refine S34 ?_ | refine S48 ?_ | refine S54 ?_ | refine S66 ?_ | refine S68 ?_)
    refine AW.negV EVx ?_
    repeat (first | refine S0 ?_ | refine S1 ?_ | refine S2 ?_ | refine S5 ?_ | refine S7 ?_ | refine S8 ?_ | refine S9 ?_ | refine S15 ?_ | refine S16 ?_ | refine S19 ?_ | refine S20 ?_ | refine S29 ?_ | refine S34 ?_ | refine S48 ?_ | refine S54 ?_ | refine S66 ?_ | refine S68 ?_)
    exact ⟨.inr rfl, Fz.pair (.cl rfl) (.cl rfl)⟩
  · rw [if_neg h]
    repeat (first | refine S0 ?_ | refine S1 ?_ | refine S2 ?_ | refine S5 ?_ | refine S7 ?_ | refine S8 ?_ | refine S9 ?_ | refine S15 ?_ | refine S16 ?_ | refine S19 ?_ | refine S20 ?_ | refine S29 ?_ | refine S34 ?_ | refine S48 ?_ | refine S54 ?_ | refine S66 ?_ | refine S68 ?_)
    exact ⟨.inr rfl, Fz.pair (.cl rfl) (.cl rfl)⟩
end Go.Proofs.Ytenoiklocdoemaa

/- Braids: the permutation, the exponent sum, the inverse. No condition of its own. -/
set_option linter.unusedVariables false
set_option linter.unusedSimpArgs false
namespace Go.Proofs.Ytenoiklocdoemaa
open Go.RowKit

/-- what a letter of size i does to a place -/
def tau (i j : Nat) : Nat := if j + 1 = i then i else if j = i then i - 1 else j
def ltr (x : Int) : Nat := (absI x).toNat
/-- where a strand is after the letters; which strand is at a place -/
def eAt (w : List Int) : Nat → Nat → Nat
  | 0, s => s
  | k + 1, s => tau (ltr (w.getD k 0)) (eAt w k s)
def fAt (w : List Int) : Nat → Nat → Nat
  | 0, j => j
  | k + 1, j => fAt w k (tau (ltr (w.getD k 0)) j)
structure Wd (n : Nat) (w : List Int) : Prop where
  n9 : n ≤ 6
  len : w.length ≤ 30
  lt : ∀ k, k < w.length → letP n (w.getD k 0)
theorem Wd.of {n : Int} {w : List Int} (h : bF n w = 0) : ∃ m : Nat, n = (m : Int) ∧ 1 ≤ m ∧ Wd m w := by
  obtain ⟨h1, h2, h3⟩ := bF_ok h
  refine ⟨n.toNat, by omega, by omega, by omega, h2, fun k hk => ?_⟩
  rw [show ((n.toNat : Nat) : Int) = n by omega]
  exact h3 _ (by rw [getD_lt 0 hk]; exact List.getElem_mem hk)
theorem Wd.ltr {n : Nat} {w : List Int} (h : Wd n w) {k : Nat} (hk : k < w.length) : 1 ≤ ltr (w.getD k 0) ∧ ltr (w.getD k 0) < n ∧ ((ltr (w.getD k 0) : Nat) : Int) = absI (w.getD k 0) := by
  have := abs_let (h.lt k hk) (by have := h.n9; omega)
  unfold Go.Proofs.Ytenoiklocdoemaa.ltr; omega
end Go.Proofs.Ytenoiklocdoemaa

/- slices.Backward at lists of ints, as a range over a function wants it. No condition of its own. -/
set_option linter.unusedVariables false
set_option linter.unusedSimpArgs false
namespace Go.Proofs.Ytenoiklocdoemaa
open Go.RowKit Go.Shelf
attribute [local go_sem] Oper.semAt_some

def upto {α : Type} (f : Nat → α) (k : Nat) : List α := (List.range k).map f
/-- what a round keeps: all below n₀, and the iterator's own box -/
def KpB (n₀ Bs : Nat) (W W' : World) : Prop := Below n₀ W W' ∧ W'.heap[Bs]? = W.heap[Bs]?
theorem KpB.refl (n₀ Bs : Nat) (W : World) : KpB n₀ Bs W W := ⟨Below.refl _ _, rfl⟩
theorem KpB.trans {n₀ Bs : Nat} {A B C : World} (h : KpB n₀ Bs A B) (k : KpB n₀ Bs B C) : KpB n₀ Bs A C := ⟨h.1.trans k.1, k.2.trans h.2⟩
/-- what comes in round j: the index and the value, from the end on -/
def bk (zs : List Int) (j : Nat) : Int × Int := ((zs.length : Int) - 1 - j, zs[zs.length - 1 - j]?.getD 0)

/-- the slice holds zs, below n₀ -/
def HInts (n₀ : Nat) (W : World) (A : Option Addr) (zs : List Int) : Prop := zs = [] ∨ ∃ b off, A = some ⟨b, off, none⟩ ∧ b < n₀ ∧ ∀ j, j < zs.length → W.cell? ⟨b, off + j, none⟩ = some (.int .i64 (zs[j]?.getD 0))
theorem HInts.below {n₀ : Nat} {X Y : World} (h : Below n₀ X Y) {A : Option Addr} {zs : List Int} : HInts n₀ X A zs → HInts n₀ Y A zs
  | .inl e => .inl e
  | .inr ⟨b, off, e, hb, hc⟩ => .inr ⟨b, off, e, hb, fun j hj => (h.cell (p := ⟨b, off + j, none⟩) hb).trans (hc j hj)⟩
theorem HInts.of {w : World} {A : Option Addr} {cap : Nat} {zs : List Int} (h : IsInts w A cap zs) : HInts w.heap.size w A zs := by
  by_cases e : zs = []
  · exact .inl e
  · obtain ⟨b, o, rfl, hlt, hc⟩ := h.row e
    exact .inr ⟨b, o, rfl, hlt, fun j hj => by rw [hc j hj]; simp [List.getD]⟩
/-- what the loop has appended -/
def negs (pre : List (Int × Int)) : List Int := pre.map fun x => wrap64 (-x.2)
def invL (zs : List Int) : List Int := (zs.map fun x => -x).reverse
end Go.Proofs.Ytenoiklocdoemaa

/- Braids: sums, inverses, the law. No condition of its own. -/
set_option linter.unusedVariables false
set_option linter.unusedSimpArgs false
namespace Go.Proofs.Ytenoiklocdoemaa
open Go.RowKit

def sumTo (w : List Int) : Nat → Int
  | 0 => 0
  | k + 1 => sumTo w k + sgI (w.getD k 0)
/-- out[n-1-j] = F j for all j below k, the rest 0 -/
def fillR (n k : Nat) (F : Nat → Int) : List Int := (List.range n).map fun i => if n ≤ i + k then F (n - 1 - i) else 0
end Go.Proofs.Ytenoiklocdoemaa
