/- Matrices of terms that stand for Burau matrices: letters and products. Plain facts: nothing of the program is here. -/
import Derived.Test.YtenoiklocdoemaaGAlexanderMinorsBN
import Derived.Test.YtenoiklocdoemaaGAlexanderMinorsBF
set_option linter.unusedVariables false
set_option linter.unusedSimpArgs false
namespace Go.Proofs.Ytenoiklocdoemaa

def ins (f : Tm) (k c : Int) : Tm := fun y => if y = k then some c else f y
def t1 (e c : Int) : Tm := ins tm0 e c
def unitT (r c : Nat) : Tm := if r = c then t1 0 1 else tm0
theorem IsT.ins {B : Nat} {f : Tm} {a : LP} (h : IsT B f a) {k c : Int} (hk : -(B : Int) ≤ k ∧ k ≤ B) (hn : f k = none) : IsT B (ins f k c) (a + LP.mono c k) := by
  refine ⟨fun e => ?_, fun e he => ?_⟩
  · rw [LP.add_f, LP.mono_f]
    by_cases e1 : e = k
    · subst e1
      have hv := h.val e
      rw [show tv f e = 0 by unfold tv; rw [hn]; rfl] at hv
      rw [if_pos rfl, ← wrp_addl, ← hv, show tv (Proofs.Ytenoiklocdoemaa.ins f e c) e = c by unfold tv Proofs.Ytenoiklocdoemaa.ins; rw [if_pos rfl]; rfl, wrp_addl, Int.zero_add]
    · rw [if_neg e1, Int.add_zero, ← h.val e]
      unfold tv Proofs.Ytenoiklocdoemaa.ins
      rw [if_neg e1]
  · by_cases e1 : e = k
    · omega
    · unfold Proofs.Ytenoiklocdoemaa.ins at he
      rw [if_neg e1] at he
      exact h.bd e he
theorem T64.ins {f : Tm} (h : T64 f) {k c : Int} (hc : in64 c) : T64 (ins f k c) := fun e => by
  by_cases e1 : e = k
  · rw [show tv (Proofs.Ytenoiklocdoemaa.ins f k c) e = c by unfold tv Proofs.Ytenoiklocdoemaa.ins; rw [if_pos e1]; rfl]; exact hc
  · rw [show tv (Proofs.Ytenoiklocdoemaa.ins f k c) e = tv f e by unfold tv Proofs.Ytenoiklocdoemaa.ins; rw [if_neg e1]]; exact h e
theorem T64.none : T64 tm0 := fun e => by show in64 0; unfold in64; omega
theorem isT_1 (c e : Int) {B : Nat} (h : -(B : Int) ≤ e ∧ e ≤ B) : IsT B (t1 e c) (LP.mono c e) := by
  have := (isT_none (B := B)).ins (f := tm0) (c := c) h rfl
  rwa [LP.zero_add] at this
theorem T64.t1 (e : Int) {c : Int} (hc : in64 c) : T64 (t1 e c) := T64.none.ins hc
/-- the letter's matrix of terms -/
def letterT (x : Int) (r c : Nat) : Tm :=
  if r + 1 = x.natAbs ∧ c + 1 = x.natAbs then (if 0 < x then ins (t1 0 1) 1 (-1) else tm0)
  else if r + 1 = x.natAbs ∧ c = x.natAbs then (if 0 < x then t1 1 1 else t1 0 1)
  else if r = x.natAbs ∧ c + 1 = x.natAbs then (if 0 < x then t1 0 1 else t1 (-1) 1)
  else if r = x.natAbs ∧ c = x.natAbs then (if 0 < x then tm0 else ins (t1 0 1) (-1) (-1))
  else unitT r c
theorem unit_is (r c : Nat) {B : Nat} : IsT B (unitT r c) (unitM r c) := by
  unfold unitT unitM
  split
  · exact isT_1 1 0 (by omega)
  · exact isT_none
theorem unit_64 (r c : Nat) : T64 (unitT r c) := by
  unfold unitT
  split
  · exact T64.t1 _ (by unfold in64; omega)
  · exact T64.none
theorem letter_64 (x : Int) (r c : Nat) : T64 (letterT x r c) := by
  have i1 : in64 1 := by unfold in64; omega
  have i2 : in64 (-1) := by unfold in64; omega
  unfold letterT
  repeat' split
  all_goals first
    | exact T64.none
    | exact T64.t1 _ i1
    | exact (T64.t1 _ i1).ins i2
    | exact unit_64 _ _
theorem letter_is {x : Int} (hx : x ≠ 0) (r c : Nat) : IsT 1 (letterT x r c) (burM [x] r c) := by
  have hb : burM [x] r c = stepM unitM x r c := rfl
  have hm : 1 ≤ x.natAbs := by omega
  rw [hb]
  unfold stepM letterT
  by_cases c1 : c + 1 = x.natAbs
  · rw [if_pos c1]
    by_cases r1 : r + 1 = x.natAbs
    · rw [if_pos ⟨r1, c1⟩, show unitM r (x.natAbs - 1) = 1 from if_pos (by omega), show unitM r x.natAbs = 0 from if_neg (by omega), LP.one_mul, LP.zero_mul, LP.add_zero]
      unfold e00
      split
      · exact (isT_1 1 0 (by omega)).ins (by omega) (by unfold t1 Proofs.Ytenoiklocdoemaa.ins; rw [if_neg (by omega)]; rfl)
      · exact isT_none
    · rw [if_neg (fun h => r1 h.1), if_neg (fun h => r1 h.1)]
      by_cases r2 : r = x.natAbs
      · rw [if_pos ⟨r2, c1⟩, show unitM r (x.natAbs - 1) = 0 from if_neg (by omega), show unitM r x.natAbs = 1 from if_pos r2, LP.zero_mul, LP.one_mul, LP.zero_add]
        unfold e10
        split
        · exact isT_1 1 0 (by omega)
        · exact isT_1 1 (-1) (by omega)
      · rw [if_neg (fun h => r2 h.1), if_neg (fun h => r2 h.1), show unitM r (x.natAbs - 1) = 0 from if_neg (by omega), show unitM r x.natAbs = 0 from if_neg r2, LP.zero_mul, LP.zero_mul, LP.zero_add]
        unfold unitT
        rw [if_neg (by omega)]
        exact isT_none
  · rw [if_neg c1]
    by_cases c2 : c = x.natAbs
    · rw [if_pos c2]
      by_cases r1 : r + 1 = x.natAbs
      · rw [if_neg (fun h => c1 h.2), if_pos ⟨r1, c2⟩, show unitM r (x.natAbs - 1) = 1 from if_pos (by omega), show unitM r x.natAbs = 0 from if_neg (by omega), LP.one_mul, LP.zero_mul, LP.add_zero]
        unfold e01
        split
        · exact isT_1 1 1 (by omega)
        · exact isT_1 1 0 (by omega)
      · rw [if_neg (fun h => r1 h.1), if_neg (fun h => r1 h.1)]
        by_cases r2 : r = x.natAbs
        · rw [if_neg (fun h => c1 h.2), if_pos ⟨r2, c2⟩, show unitM r (x.natAbs - 1) = 0 from if_neg (by omega), show unitM r x.natAbs = 1 from if_pos r2, LP.zero_mul, LP.one_mul, LP.zero_add]
          unfold e11
          split
          · exact isT_none
          · exact (isT_1 1 0 (by omega)).ins (by omega) (by unfold t1 Proofs.Ytenoiklocdoemaa.ins; rw [if_neg (by omega)]; rfl)
        · rw [if_neg (fun h => r2 h.1), if_neg (fun h => r2 h.1), show unitM r (x.natAbs - 1) = 0 from if_neg (by omega), show unitM r x.natAbs = 0 from if_neg r2, LP.zero_mul, LP.zero_mul, LP.zero_add]
          unfold unitT
          rw [if_neg (by omega)]
          exact isT_none
    · rw [if_neg c2, if_neg (fun h => c1 h.2), if_neg (fun h => c2 h.2), if_neg (fun h => c1 h.2), if_neg (fun h => c2 h.2)]
      exact unit_is r c
/-- the sum that is made for an entry -/
noncomputable def sumT (A B : List (List Tm)) (i k : Nat) : Nat → Tm
  | 0 => tm0
  | j + 1 => wT (tplus (sumT A B i k j) (wT (tmul ((A.getD i []).getD j tm0) ((B.getD j []).getD k tm0))) 1)
noncomputable def prodL (A B : List (List Tm)) (n : Nat) : List (List Tm) := (List.range n).map fun i => (List.range n).map fun k => sumT A B i k n
theorem prodL_get (A B : List (List Tm)) {n i k : Nat} (hi : i < n) (hk : k < n) : ((prodL A B n).getD i []).getD k tm0 = sumT A B i k n := by simp [prodL, List.getD, hi, hk]
theorem smP_range (g : Nat → LP) (j : Nat) : smP (List.range (j + 1)) g = smP (List.range j) g + g j := by
  rw [List.range_succ, smP_append]
  simp [smP, LP.add_zero]
theorem sumT_is {A B : List (List Tm)} {n b1 b2 : Nat} {M N : Nat → Nat → LP} (hA : TMx A n b1 M) (hB : TMx B n b2 N) {i k : Nat} (hi : i < n) (hk : k < n) : ∀ j, j ≤ n → IsT (b1 + b2) (sumT A B i k j) (smP (List.range j) (fun j => M i j * N j k))
  | 0, _ => isT_none
  | j + 1, hj => by
    have h1 := sumT_is hA hB hi hk j (by omega)
    have h2 := (hA.is i j hi (by omega)).mul (hB.is j k (by omega) hk) (hA.sup i j)
    have := h1.plus h2 1
    rw [LP.smul_one] at this
    rw [smP_range]
    exact this
theorem sumT_64 (A B : List (List Tm)) (i k : Nat) : ∀ j, T64 (sumT A B i k j)
  | 0 => T64.none
  | _ + 1 => T64.wT _
/-- with small values -/
structure TMz (tm : List (List Tm)) (n B : Nat) (M : Nat → Nat → LP) : Prop where
  m : TMx tm n B M
  v : ∀ i j, i < n → j < n → T64 ((tm.getD i []).getD j tm0)
theorem prod_ok {A B : List (List Tm)} {n b1 b2 : Nat} {M N L : Nat → Nat → LP} (hA : TMx A n b1 M) (hB : TMx B n b2 N) (hb : b1 + b2 ≤ 300) (hL : ∀ i k, i < n → k < n → L i k = mmul n M N i k) (hs : ∀ i k, Sup ((b1 + b2 : Nat) : Int) (L i k)) : TMz (prodL A B n) n (b1 + b2) L := by
  refine ⟨⟨hA.hn, hb, by simp [prodL], fun i hi => by simp [prodL, List.getD, hi], fun i k hi hk => ?_, hs⟩, fun i k hi hk => ?_⟩
  · rw [prodL_get A B hi hk, hL i k hi hk]
    exact sumT_is hA hB hi hk n (Nat.le_refl _)
  · rw [prodL_get A B hi hk]; exact sumT_64 A B i k n
/-- a matrix of terms as lists -/
def matT (F : Nat → Nat → Tm) (n : Nat) : List (List Tm) := (List.range n).map fun r => (List.range n).map fun c => F r c
theorem matT_get (F : Nat → Nat → Tm) {n i k : Nat} (hi : i < n) (hk : k < n) : ((matT F n).getD i []).getD k tm0 = F i k := by simp [matT, List.getD, hi, hk]
theorem matT_ok {F : Nat → Nat → Tm} {n B : Nat} {M : Nat → Nat → LP} (hn : n ≤ 6) (hb : B ≤ 300) (h1 : ∀ i k, IsT B (F i k) (M i k)) (h2 : ∀ i k, T64 (F i k)) (hs : ∀ i k, Sup (B : Int) (M i k)) : TMz (matT F n) n B M :=
  ⟨⟨hn, hb, by simp [matT], fun i hi => by simp [matT, List.getD, hi], fun i k hi hk => by rw [matT_get F hi hk]; exact h1 i k, hs⟩, fun i k hi hk => by rw [matT_get F hi hk]; exact h2 i k⟩
end Go.Proofs.Ytenoiklocdoemaa
