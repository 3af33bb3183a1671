/- Contracts of functions of this seat, and plain facts for them: used by the claims. No condition of its own. -/
import Derived.Test.YtgjfpmjllpgadaaGGarsideEqualsBC
import Derived.Test.YtgjfpmjllpgadaaRows
import Derived.Test.YtgjfpmjllpgadaaGGarsideEqualsAC
import Derived.Test.YtgjfpmjllpgadaaGGarsideEqualsAA
import Derived.Test.YtgjfpmjllpgadaaGGarsideEqualsAB
import Derived.Deep.QuietTactic
import Derived.BigQuiet
import Derived.Maps.OwnOps
import Derived.Maps.OwnSet
import Derived.WalkKit
import Derived.Test.YtgjfpmjllpgadaaGGarsideEqualsAV
import Derived.Test.YtgjfpmjllpgadaaGGarsideEqualsAR
set_option linter.unusedVariables false
set_option linter.unusedSimpArgs false
namespace Go.Proofs.Ytgjfpmjllpgadaa
open Go.RowKit

theorem info3 : (Try.prog.info? 3).map (fun i => (i.zero, i.size, i.bytes)) = some (some (.int .i64 0), 1, 8) := by kernel_rfl
end Go.Proofs.Ytgjfpmjllpgadaa

/- Contracts of functions of this seat, and plain facts for them: used by the claims. No condition of its own. -/
set_option linter.unusedVariables false
set_option linter.unusedSimpArgs false
namespace Go.Proofs.Ytgjfpmjllpgadaa
open Go.RowKit

/-- The fault of the element at k. -/
def pfAt (xs : List Int) (k : Nat) : Int :=
  if xs.getD k 0 < 0 ∨ (xs.length : Int) ≤ xs.getD k 0 then 1 else if xs.getD k 0 ∈ xs.take k then 5 else 0
def permFault (xs : List Int) : Int := if 9 < xs.length then 2 else firstNZ (pfAt xs) xs.length

theorem pfAt_zero {xs : List Int} {k : Nat} (hk : k < xs.length) (h : 0 ≤ xs[k] ∧ xs[k] < (xs.length : Int)) (h5 : ¬ xs[k] ∈ xs.take k) : pfAt xs k = 0 := by
  unfold pfAt; rw [getD_lt 0 hk, if_neg (by omega), if_neg h5]
theorem permFault_ok {xs : List Int} (h9 : xs.length ≤ 9) (h : ∀ j, j < xs.length → pfAt xs j = 0) : permFault xs = 0 := by
  unfold permFault; rw [if_neg (by omega), firstNZ_zero h]

end Go.Proofs.Ytgjfpmjllpgadaa

/- Contracts of functions of this seat, and plain facts for them: used by the claims. No condition of its own. -/
set_option linter.unusedVariables false
set_option linter.unusedSimpArgs false
namespace Go.Proofs.Ytgjfpmjllpgadaa
open Go.RowKit

end Go.Proofs.Ytgjfpmjllpgadaa

/- Contracts of functions of this seat, and plain facts for them: used by the claims. No condition of its own. -/
set_option linter.unusedVariables false
set_option linter.unusedSimpArgs false
namespace Go.Proofs.Ytgjfpmjllpgadaa
open Go.RowKit

theorem permFault_range {xs : List Int} (h : permFault xs = 0) : xs.length ≤ 9 ∧ InRange xs ∧ xs.Nodup := by
  unfold permFault at h
  split at h
  · cases h
  · rename_i h9
    rw [firstNZ_zero_iff] at h
    refine ⟨by omega, fun i hi => ?_, ?_⟩
    · have := h i hi
      unfold pfAt at this
      split at this
      · cases this
      · omega
    · refine List.pairwise_iff_getElem.2 fun i j hi hj hij e => ?_
      have := h j hj
      unfold pfAt at this
      split at this
      · cases this
      · split at this
        · cases this
        · rename_i hm
          apply hm
          rw [getD_lt 0 hj, ← e]
          exact List.mem_iff_getElem.2 ⟨i, by simp; omega, by simp⟩

end Go.Proofs.Ytgjfpmjllpgadaa

/-
  Ranks of permutations: the program's way and the reference's. Plain facts: nothing of the program is here.
-/
set_option linter.unusedVariables false
set_option linter.unusedSimpArgs false
namespace Go.Proofs.Ytgjfpmjllpgadaa

def idRow (n : Nat) : List Int := (List.range n).map (fun i : Nat => (i : Int))
/-- The reference's loop: what is left, and the number so far. -/
def numGo : List Int → List Int → Nat → Nat
  | [], _, n => n
  | x :: xs, rest, n => numGo xs (rest.erase x) (n * rest.length + rest.idxOf x)
def number (xs : List Int) : Nat := numGo xs (idRow xs.length) 0

def smaller (xs : List Int) (k j : Nat) : Nat := (((xs.drop (k + 1)).take j).filter (fun y => y < xs.getD k 0)).length
def rk (xs : List Int) : Nat → Nat
  | 0 => 0
  | k + 1 => rk xs k * (xs.length - k) + smaller xs k (xs.length - (k + 1))
def rank (xs : List Int) : Int := rk xs xs.length

/-! ### Unrank -/
def fac : Nat → Nat
  | 0 => 1
  | n + 1 => (n + 1) * fac n
def ur : Nat → List Int → Nat → List Int
  | 0, _, _ => []
  | f + 1, l, r => l.getD (r / fac f) 0 :: ur f (l.eraseIdx (r / fac f)) (r % fac f)
end Go.Proofs.Ytgjfpmjllpgadaa

/- Contracts of functions of this seat, and plain facts for them: used by the claims. No condition of its own. -/
set_option linter.unusedVariables false
set_option linter.unusedSimpArgs false
namespace Go.Proofs.Ytgjfpmjllpgadaa
open Go.RowKit

end Go.Proofs.Ytgjfpmjllpgadaa

/- Contracts of functions of this seat, and plain facts for them: used by the claims. No condition of its own. -/
set_option linter.unusedVariables false
set_option linter.unusedSimpArgs false
namespace Go.Proofs.Ytgjfpmjllpgadaa
open Go.RowKit

end Go.Proofs.Ytgjfpmjllpgadaa

/-
  Maps with int keys that the call itself has made: 'IMap': block b is a map that holds m x at the key x. Nothing of the program is here.
-/
set_option linter.unusedVariables false
set_option linter.unusedSimpArgs false
namespace Go.Proofs.Ytgjfpmjllpgadaa
open Go.RowKit Go.ChangeMaps Go.MapKept
open Go.WideElems (Fit rd rg pl rd_val elemAt)
open Go.Maps (Keyed)

/-- Each element reads as itself. -/
def RV (v : Value) : Option (DataW Value × List MemPlace) := some (.held v, [])
def cellOf : Option Value → DataW Value
  | some v => .held v
  | none => .nil

/-- Block b of w is a map of at most n entries; at the int key x it holds m x. -/
def IMap (P : Program) (k : TypeId) (w : World) (b n : Nat) (m : Int → Option Value) : Prop :=
  ∃ D : DataW Value, w.ownsMap P k RV b n D ∧ Maps.IsMap D ∧ ∀ x, (Lit.int .i64 x).wf = true → D.atKey (.int .i64 x) .nil = cellOf (m x)

section
variable {P : Program} {k t e : TypeId} {w w' : World} {b n : Nat} {m : Int → Option Value}
theorem IMap.congr {m' : Int → Option Value} (h : IMap P k w b n m) (hm : ∀ x, m x = m' x) : IMap P k w b n m' := by
  have : m = m' := funext hm
  subst this; exact h
theorem IMap.mono {n' : Nat} (h : IMap P k w b n m) (hn : n ≤ n') : IMap P k w b n' m := by
  obtain ⟨D, h1, h2, h3⟩ := h
  exact ⟨D, h1.mono hn, h2, h3⟩
theorem IMap.lt (h : IMap P k w b n m) : b < w.heap.size := by obtain ⟨D, h1, _⟩ := h; exact h1.lt
theorem IMap.kept {row : Option Nat} (h : IMap P k w b n m) (hg : w.grownBy w' row) (hne : some b ≠ row) : IMap P k w' b n m := by
  obtain ⟨D, h1, h2, h3⟩ := h
  exact ⟨D, h1.kept hg hne, h2, h3⟩
theorem IMap.alloc (h : IMap P k w b n m) (o : Obj) : IMap P k (w.alloc o) b n m := h.kept (World.grownBy_alloc w o none) (by simp)
theorem IMap.drew (h : IMap P k w b n m) : IMap P k w.drew b n m := h
theorem IMap.below {B : Nat} (h : IMap P k w b n m) (hb : Below B w w') (hB : b < B) : IMap P k w' b n m := by
  obtain ⟨D, ⟨es, clock, q1, q2⟩, h2, h3⟩ := h
  exact ⟨D, ⟨es, clock, (hb.block b hB).trans q1, q2⟩, h2, h3⟩

theorem IMap.store (h : IMap P k w b n m) (hk : P.underlying k = some (.int .i64)) (ht : P.underlying t = some (.map k e)) (hn : n < maxLen)
    {x : Int} (hx : (Lit.int .i64 x).wf = true) (v : Value) : ∃ w', (Instr.mapUpdate t (.map (some b)) (.int .i64 x) v).run P w = .ok () w' ∧ IMap P k w' b (n + 1) (fun y => if y = x then some v else m y) ∧ w.grownBy w' (some b) := by
  obtain ⟨D, h1, h2, h3⟩ := h
  obtain ⟨w', hrun, h1', hg⟩ := h1.update (Maps.int_keyed hk) ht hn (Maps.keyOf_int_mk hk hx) (R := RV) (val := v) (d := .held v) (ps := []) rfl
  refine ⟨w', hrun, ⟨_, h1', h2.put _ _, fun y hy => ?_⟩, hg⟩
  by_cases e : y = x
  · subst e
    rw [Maps.atKey_put_same h2 (show WideAt.IsKeyLit (Lit.int .i64 y) from trivial)]
    simp [cellOf]
  · rw [Maps.atKey_put_other (fun e' => e (by injection e'))]
    simp [e, h3 y hy]
end

/-- A set: a map[int]bool whose entries are all true. -/
def ISet (P : Program) (k : TypeId) (w : World) (b n : Nat) (S : Int → Bool) : Prop := IMap P k w b n (fun x => if S x then some (.bool true) else none)

section
variable {P : Program} (w : World) {ops : Array Oper} {rest : List Oper} {o : Oper} {a : Act} {Q : Exit → Act → World → Prop}
end

end Go.Proofs.Ytgjfpmjllpgadaa

/- Contracts of functions of this seat, and plain facts for them: used by the claims. No condition of its own. -/
set_option linter.unusedVariables false
set_option linter.unusedSimpArgs false
namespace Go.Proofs.Ytgjfpmjllpgadaa
open Go.RowKit

def seenOf (xs : List Int) (k : Nat) (x : Int) : Bool := (xs.take k).contains x

end Go.Proofs.Ytgjfpmjllpgadaa

/- Contracts by lists of functions on permutations. No condition of its own. -/
set_option linter.unusedVariables false
set_option linter.unusedSimpArgs false
namespace Go.Proofs.Ytgjfpmjllpgadaa
open Go.RowKit

set_option maxHeartbeats 1000000 in
set_option maxRecDepth 100000 in
theorem identity_s (n : Nat) (hn : n ≤ 9) : SC Try.prog 66 [pint n] (pli (tabN n id)) := by
  refine SC.go {} tok mixed Try.func66 rfl rfl Try.ntmps66 rfl rfl (by kernel_rfl) ?_
  first | simp only [updS] | simp only [updL, Nat.reduceAdd]
  repeat (first | refine S0 ?_ | refine S1 ?_ | refine S2 ?_ | refine S4 ?_ | refine S5 ?_ | refine S6 ?_ | refine S7 ?_ | refine S8 ?_ | refine S10 ?_ | refine S11 ?_ | refine S13 ?_ | refine S15 ?_ | refine S16 ?_ | refine S19 ?_ | refine S20 ?_ | refine S21 ?_ | refine S22 ?_ | refine S23 ?_ | refine S24 ?_ | refine S25 ?_ | refine S26 ?_ | refine S27 ?_ | refine S65 ?_ | refine S71 ?_)
  refine CW.loopS (fun k : Nat => k ≤ n) (fun k => [(3, .ref 0 0 1 n), (8, pint n), (9, pint k)]) (fun k h => h.blk 0 = some (ints (fillT n k (fun i => ((id i : Nat) : Int))))) (fun k => n - k) 0 ⟨by omega, SLx, by rw [fillT_zero]; exact HBx⟩ ?_
  rintro k t h hk B
  first | simp only [updS] | simp only [updL, Nat.reduceAdd]
  have hl := fillT_len n k (fun i => ((id i : Nat) : Int))
  by_cases hk2 : k < n
  · have hs : (fillT n k (fun i => ((id i : Nat) : Int))).set k (k : Int) = fillT n (k + 1) (fun i => ((id i : Nat) : Int)) := fillT_set hk2
    repeat (first | refine S0 ?_ | refine S1 ?_ | refine S2 ?_ | refine S4 ?_ | refine S5 ?_ | refine S6 ?_ | refine S7 ?_ | refine S8 ?_ | refine S10 ?_ | refine S11 ?_ | refine S13 ?_ | refine S15 ?_ | refine S16 ?_ | refine S19 ?_ | refine S20 ?_ | refine S21 ?_ | refine S22 ?_ | refine S23 ?_ | refine S24 ?_ | refine S25 ?_ | refine S26 ?_ | refine S27 ?_ | refine S65 ?_ | refine S71 ?_)
    rw [hs]
    exact ⟨k + 1, by omega, SLx, (by (try dsimp only); repeat' (first | exact HBx | exact SBx | refine And.intro ?_ ?_)), by omega⟩
  · obtain rfl : k = n := by omega
    rw [fillT_tab] at B
    repeat (first | refine S0 ?_ | refine S1 ?_ | refine S2 ?_ | refine S4 ?_ | refine S5 ?_ | refine S6 ?_ | refine S7 ?_ | refine S8 ?_ | refine S10 ?_ | refine S11 ?_ | refine S13 ?_ | refine S15 ?_ | refine S16 ?_ | refine S19 ?_ | refine S20 ?_ | refine S21 ?_ | refine S22 ?_ | refine S23 ?_ | refine S24 ?_ | refine S25 ?_ | refine S26 ?_ | refine S27 ?_ | refine S65 ?_ | refine S71 ?_)
    exact ⟨.inr rfl, Fz.refI HBx (by first | (simp; done) | (simp; omega)) (by first | rfl | (simp; done))⟩
end Go.Proofs.Ytgjfpmjllpgadaa

/- Contracts by lists of functions on permutations: powers. No condition of its own. -/
set_option linter.unusedVariables false
set_option linter.unusedSimpArgs false
namespace Go.Proofs.Ytgjfpmjllpgadaa
open Go.RowKit

theorem permFault_pm {xs : List Int} (h : permFault xs = 0) : xs.length ≤ 9 ∧ Pm xs := by
  obtain ⟨h1, h2, h3⟩ := permFault_range h
  exact ⟨h1, h2, h3⟩
theorem order_bd {xs : List Int} (h : permFault xs = 0) : 1 ≤ orderOf xs ∧ orderOf xs ≤ 2520 := by
  obtain ⟨h9, hr, _⟩ := permFault_range h
  exact ordAt_bd (fun c hc => by have := cyclesOf_lens hr c hc; omega) _ (Nat.le_refl _)
/-- R.Times from the head of its loop on, for whatever map -/
def powT (xs : List Int) (k : Int) : List Int := if 0 ≤ k then tabN xs.length (itr (fn xs) k.toNat) else tabN xs.length (itr (gn xs) (-k).toNat)
end Go.Proofs.Ytgjfpmjllpgadaa

/- The reference's Spelled; half and Full; loose and Tight. No condition of its own. -/
set_option linter.unusedVariables false
set_option linter.unusedSimpArgs false
namespace Go.Proofs.Ytgjfpmjllpgadaa
open Go.RowKit

/-- the half twist -/
def rvT (n : Nat) : List Int := tabN n (fun i => n - 1 - i)
def hTab : List (FuncId × Hn) := (104, {}) :: (103, {}) :: gTab
theorem hTab_ok : FOk Try.prog (tabE Try.prog hTab) := fokB_s (by kernel_rfl)
theorem le6 {n : Nat} (h : 2 ≤ n ∧ n ≤ 6) : n = 2 ∨ n = 3 ∨ n = 4 ∨ n = 5 ∨ n = 6 := by omega
set_option maxRecDepth 100000 in
theorem half_s {n : Nat} (h : 2 ≤ n ∧ n ≤ 6) : SC Try.prog 109 [pint n] (pli (rvT n)) := by
  rcases le6 h with rfl | rfl | rfl | rfl | rfl <;> exact evP_s tok mixed hTab_ok noLib_ok 1000 (by kernel_rfl)
/-- a crossing of b that could be moved to the end of a -/
def lsB (n : Nat) (a b : List Int) (i : Nat) : Bool := decide (b.getD (i + 1) 0 < b.getD i 0) && decide (gn a i < gn a (i + 1))
def tgt (n : Nat) (a b : List Int) : Bool := (List.range (n - 1)).all fun i => !lsB n a b i
theorem tgt_true {n : Nat} {a b : List Int} (h : ∀ i, i + 1 < n → lsB n a b i = false) : tgt n a b = true := by
  unfold tgt
  rw [List.all_eq_true]
  intro i hi
  rw [h i (by have := List.mem_range.1 hi; omega)]; rfl
set_option maxHeartbeats 16000000 in
set_option maxRecDepth 100000 in
theorem loose_i {n : Nat} {a b : List Int} (hn : 2 ≤ n ∧ n ≤ 6) (ha : permFault a = 0) (hal : a.length = n) (hbl : b.length = n) : ∃ z : Int, SC Try.prog 111 [pli a, pli b] (pint z) ∧ ((∃ i : Nat, z = i ∧ i + 1 < n ∧ lsB n a b i = true) ∨ (z = -1 ∧ tgt n a b = true)) := by
  obtain ⟨h9, hp⟩ := permFault_pm ha
  have ho := (order_bd ha).1
  have kb := pback_s (n := a.length) (F := fn a) (G := gn a) hp.tabN hp.lt (fun i hi => ⟨gn_lt hp i hi, fn_gn hp ho hi, gn_fn hp ho hi⟩) h9
  have hc : ∀ i, i < n → (tabN a.length (gn a)).getD i 0 = (gn a i : Int) := fun i hi => tabN_get (by omega)
  have hcl : (tabN a.length (gn a)).length = n := by rw [tab_len]; exact hal
  have hcb : ∀ i, i < n → 0 ≤ (tabN a.length (gn a)).getD i 0 ∧ (tabN a.length (gn a)).getD i 0 ≤ 6 := fun i hi => by rw [hc i hi]; have := gn_lt hp i (by omega); omega
  have key : ∀ z : Int, (∀ b : Bool, True) → True := fun _ _ => trivial
  by_cases hex : ∃ i, i + 1 < n ∧ lsB n a b i = true
  · obtain ⟨i, ⟨hi, hl⟩, hmin⟩ := exists_least (fun i => i + 1 < n ∧ lsB n a b i = true) hex
    refine ⟨i, ?_, .inl ⟨i, rfl, hi, hl⟩⟩
    have hno : ∀ j, j < i → lsB n a b j = false := fun j hj => by
      cases hh : lsB n a b j with
      | false => rfl
      | true => have := hmin j ⟨by omega, hh⟩; omega
    refine SC.go {} tok mixed Try.func111 rfl rfl Try.ntmps111 rfl rfl (by kernel_rfl) ?_
    first | simp only [updS] | simp only [updL, Nat.reduceAdd]
    repeat (first | refine S0 ?_ | refine S1 ?_ | refine S2 ?_ | refine S3 ?_ | refine S4 ?_ | refine S5 ?_ | refine S6 ?_ | refine S7 ?_ | refine S8 ?_ | refine S9 ?_ | refine S10 ?_ | refine S11 ?_ | refine S12 ?_ | refine S13 ?_ | refine S15 ?_ | refine S16 ?_ | refine S19 ?_ | refine S20 ?_ | refine S21 ?_ | refine S22 ?_ | refine S23 ?_ | refine S25 ?_ | refine S26 ?_ | refine S27 ?_ | refine S30 ?_ | refine S33 ?_ | refine S37 ?_ | refine S38 ?_ | refine S40 ?_ | refine S41 ?_ | refine S46 ?_ | refine S50 ?_ | refine S65 ?_)
    refine Scall (args := [pli a]) kb ?_
    generalize tabN a.length (gn a) = c at *
    repeat (first | refine S0 ?_ | refine S1 ?_ | refine S2 ?_ | refine S3 ?_ | refine S4 ?_ | refine S5 ?_ | refine S6 ?_ | refine S7 ?_ | refine S8 ?_ | refine S9 ?_ | refine S10 ?_ | refine S11 ?_ | refine S12 ?_ | refine S13 ?_ | refine S15 ?_ | refine S16 ?_ | refine S19 ?_ | refine S20 ?_ | refine S21 ?_ | refine S22 ?_ | refine S23 ?_ | refine S25 ?_ | refine S26 ?_ | refine S27 ?_ | refine S30 ?_ | refine S33 ?_ | refine S37 ?_ | refine S38 ?_ | refine S40 ?_ | refine S41 ?_ | refine S46 ?_ | refine S50 ?_ | refine S65 ?_)
    refine CW.loopS (fun j : Nat => j ≤ i) (fun j => [(1, pli b), (5, pli c), (11, pint ((n : Int) - 1)), (12, pint j)]) (fun _ _ => True) (fun j => i - j) 0 ⟨Nat.zero_le _, by rw [← hbl]; exact SLx, trivial⟩ ?_
    rintro j t hp' hj _
    first | simp only [updS] | simp only [updL, Nat.reduceAdd]
    have e1 : ((j : Int) + 1).toNat = j + 1 := by omega
    have h1 := hc j (by omega)
    have h2 := hc (j + 1) (by omega)
    have hq : lsB n a b j = (decide (b.getD ((j : Int) + 1).toNat 0 < b.getD j 0) && decide (c.getD j 0 < c.getD ((j : Int) + 1).toNat 0)) := by
      unfold lsB; rw [e1, h1, h2]
      congr 1
      exact decide_eq_decide.2 (by omega)
    by_cases hji : j < i
    · have hf := hno j hji
      rw [hq, Bool.and_eq_false_iff, decide_eq_false_iff_not, decide_eq_false_iff_not] at hf
      by_cases c1 : b.getD ((j : Int) + 1).toNat 0 < b.getD j 0
      · have c2 := hf.resolve_left (fun h => h c1)
        repeat (first | refine S0 ?_ | refine S1 ?_ | refine S2 ?_ | refine S3 ?_ | refine S4 ?_ | refine S5 ?_ | refine S6 ?_ | refine S7 ?_ | refine S8 ?_ | refine S9 ?_ | refine S10 ?_ | refine S11 ?_ | refine S12 ?_ | refine S13 ?_ | refine S15 ?_ | refine S16 ?_ | refine S19 ?_ | refine S20 ?_ | refine S21 ?_ | refine S22 ?_ | refine S23 ?_ | refine S25 ?_ | refine S26 ?_ | refine S27 ?_ | refine S30 ?_ | refine S33 ?_ | refine S37 ?_ | refine S38 ?_ | refine S40 ?_ | refine S41 ?_ | refine S46 ?_ | refine S50 ?_ | refine S65 ?_)
        exact ⟨j + 1, hji, SLx, trivial, by omega⟩
      · repeat (first | refine S0 ?_ | refine S1 ?_ | refine S2 ?_ | refine S3 ?_ | refine S4 ?_ | refine S5 ?_ | refine S6 ?_ | refine S7 ?_ | refine S8 ?_ | refine S9 ?_ | refine S10 ?_ | refine S11 ?_ | refine S12 ?_ | refine S13 ?_ | refine S15 ?_ | refine S16 ?_ | refine S19 ?_ | refine S20 ?_ | refine S21 ?_ | refine S22 ?_ | refine S23 ?_ | refine S25 ?_ | refine S26 ?_ | refine S27 ?_ | refine S30 ?_ | refine S33 ?_ | refine S37 ?_ | refine S38 ?_ | refine S40 ?_ | refine S41 ?_ | refine S46 ?_ | refine S50 ?_ | refine S65 ?_)
        exact ⟨j + 1, hji, SLx, trivial, by omega⟩
    · obtain rfl : j = i := by omega
      rw [hq, Bool.and_eq_true, decide_eq_true_eq, decide_eq_true_eq] at hl
      obtain ⟨c1, c2⟩ := hl
      repeat (first | refine S0 ?_ | refine S1 ?_ | refine S2 ?_ | refine S3 ?_ | refine S4 ?_ | refine S5 ?_ | refine S6 ?_ | refine S7 ?_ | refine S8 ?_ | refine S9 ?_ | refine S10 ?_ | refine S11 ?_ | refine S12 ?_ | refine S13 ?_ | refine S15 ?_ | refine S16 ?_ | refine S19 ?_ | refine S20 ?_ | refine S21 ?_ | refine S22 ?_ | refine S23 ?_ | refine S25 ?_ | refine S26 ?_ | refine S27 ?_ | refine S30 ?_ | refine S33 ?_ | refine S37 ?_ | refine S38 ?_ | refine S40 ?_ | refine S41 ?_ | refine S46 ?_ | refine S50 ?_ | refine S65 ?_)
      exact ⟨.inr rfl, .cl rfl⟩
  · have hno : ∀ i, i + 1 < n → lsB n a b i = false := fun i hi => by
      cases hh : lsB n a b i with
      | false => rfl
      | true => exact absurd ⟨i, hi, hh⟩ hex
    refine ⟨-1, ?_, .inr ⟨rfl, tgt_true hno⟩⟩
    refine SC.go {} tok mixed Try.func111 rfl rfl Try.ntmps111 rfl rfl (by kernel_rfl) ?_
    first | simp only [updS] | simp only [updL, Nat.reduceAdd]
    repeat (first | refine S0 ?_ | refine S1 ?_ | refine S2 ?_ | refine S3 ?_ | refine S4 ?_ | refine S5 ?_ | refine S6 ?_ | refine S7 ?_ | refine S8 ?_ | refine S9 ?_ | refine S10 ?_ | refine S11 ?_ | refine S12 ?_ | refine S13 ?_ | refine S15 ?_ | refine S16 ?_ | refine S19 ?_ | refine S20 ?_ | refine S21 ?_ | refine S22 ?_ | refine S23 ?_ | refine S25 ?_ | refine S26 ?_ | refine S27 ?_ | refine S30 ?_ | refine S33 ?_ | refine S37 ?_ | refine S38 ?_ | refine S40 ?_ | refine S41 ?_ | refine S46 ?_ | refine S50 ?_ | refine S65 ?_)
    refine Scall (args := [pli a]) kb ?_
    generalize tabN a.length (gn a) = c at *
    repeat (first | refine S0 ?_ | refine S1 ?_ | refine S2 ?_ | refine S3 ?_ | refine S4 ?_ | refine S5 ?_ | refine S6 ?_ | refine S7 ?_ | refine S8 ?_ | refine S9 ?_ | refine S10 ?_ | refine S11 ?_ | refine S12 ?_ | refine S13 ?_ | refine S15 ?_ | refine S16 ?_ | refine S19 ?_ | refine S20 ?_ | refine S21 ?_ | refine S22 ?_ | refine S23 ?_ | refine S25 ?_ | refine S26 ?_ | refine S27 ?_ | refine S30 ?_ | refine S33 ?_ | refine S37 ?_ | refine S38 ?_ | refine S40 ?_ | refine S41 ?_ | refine S46 ?_ | refine S50 ?_ | refine S65 ?_)
    refine CW.loopS (fun j : Nat => j + 1 ≤ n) (fun j => [(1, pli b), (5, pli c), (11, pint ((n : Int) - 1)), (12, pint j)]) (fun _ _ => True) (fun j => n - j) 0 ⟨by omega, by rw [← hbl]; exact SLx, trivial⟩ ?_
    rintro j t hp' hj _
    first | simp only [updS] | simp only [updL, Nat.reduceAdd]
    have e1 : ((j : Int) + 1).toNat = j + 1 := by omega
    by_cases hji : j + 1 < n
    · have h1 := hc j (by omega)
      have h2 := hc (j + 1) (by omega)
      have hq : lsB n a b j = (decide (b.getD ((j : Int) + 1).toNat 0 < b.getD j 0) && decide (c.getD j 0 < c.getD ((j : Int) + 1).toNat 0)) := by
        unfold lsB; rw [e1, h1, h2]
        congr 1
        exact decide_eq_decide.2 (by omega)
      have hf := hno j hji
      rw [hq, Bool.and_eq_false_iff, decide_eq_false_iff_not, decide_eq_false_iff_not] at hf
      by_cases c1 : b.getD ((j : Int) + 1).toNat 0 < b.getD j 0
      · have c2 := hf.resolve_left (fun h => h c1)
        repeat (first | refine S0 ?_ | refine S1 ?_ | refine S2 ?_ | refine S3 ?_ | refine S4 ?_ | refine S5 ?_ | refine S6 ?_ | refine S7 ?_ | refine S8 ?_ | refine S9 ?_ | refine S10 ?_ | refine S11 ?_ | refine S12 ?_ | refine S13 ?_ | refine S15 ?_ | refine S16 ?_ | refine S19 ?_ | refine S20 ?_ | refine S21 ?_ | refine S22 ?_ | refine S23 ?_ | refine S25 ?_ | refine S26 ?_ | refine S27 ?_ | refine S30 ?_ | refine S33 ?_ | refine S37 ?_ | refine S38 ?_ | refine S40 ?_ | refine S41 ?_ | refine S46 ?_ | refine S50 ?_ | refine S65 ?_)
        exact ⟨j + 1, by omega, SLx, trivial, by omega⟩
      · repeat (first | refine S0 ?_ | refine S1 ?_ | refine S2 ?_ | refine S3 ?_ | refine S4 ?_ | refine S5 ?_ | refine S6 ?_ | refine S7 ?_ | refine S8 ?_ | refine S9 ?_ | refine S10 ?_ | refine S11 ?_ | refine S12 ?_ | refine S13 ?_ | refine S15 ?_ | refine S16 ?_ | refine S19 ?_ | refine S20 ?_ | refine S21 ?_ | refine S22 ?_ | refine S23 ?_ | refine S25 ?_ | refine S26 ?_ | refine S27 ?_ | refine S30 ?_ | refine S33 ?_ | refine S37 ?_ | refine S38 ?_ | refine S40 ?_ | refine S41 ?_ | refine S46 ?_ | refine S50 ?_ | refine S65 ?_)
        exact ⟨j + 1, by omega, SLx, trivial, by omega⟩
    · repeat (first | refine S0 ?_ | refine S1 ?_ | refine S2 ?_ | refine S3 ?_ | refine S4 ?_ | refine S5 ?_ | refine S6 ?_ | refine S7 ?_ | refine S8 ?_ | refine S9 ?_ | refine S10 ?_ | refine S11 ?_ | refine S12 ?_ | refine S13 ?_ | refine S15 ?_ | refine S16 ?_ | refine S19 ?_ | refine S20 ?_ | refine S21 ?_ | refine S22 ?_ | refine S23 ?_ | refine S25 ?_ | refine S26 ?_ | refine S27 ?_ | refine S30 ?_ | refine S33 ?_ | refine S37 ?_ | refine S38 ?_ | refine S40 ?_ | refine S41 ?_ | refine S46 ?_ | refine S50 ?_ | refine S65 ?_)
      exact ⟨.inr rfl, .cl rfl⟩
end Go.Proofs.Ytgjfpmjllpgadaa
