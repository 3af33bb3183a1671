/-
  Powers of a permutation: the order that the program reckons takes every point back. Plain facts: nothing of the program is here.
-/
import Derived.Test.YtpmdhkiolgpiaaaGMatchingProductsBL
import Derived.Test.YtpmdhkiolgpiaaaGMatchingProductsBF
set_option linter.unusedVariables false
set_option linter.unusedSimpArgs false
namespace Go.Proofs.Ytpmdhkiolgpiaaa

def itr (f : Nat → Nat) : Nat → Nat → Nat
  | 0, i => i
  | k + 1, i => f (itr f k i)
/-- the map of a list -/
def fn (xs : List Int) (i : Nat) : Nat := (xs.getD i 0).toNat
structure Pm (xs : List Int) : Prop where
  rng : InRange xs
  nd : xs.Nodup
theorem Pm.lt {xs : List Int} (h : Pm xs) : ∀ i, i < xs.length → fn xs i < xs.length := fun i hi => by
  have := h.rng i hi; unfold fn; omega
theorem Pm.val {xs : List Int} (h : Pm xs) {i : Nat} (hi : i < xs.length) : xs.getD i 0 = (fn xs i : Int) := by
  have := h.rng i hi; unfold fn; omega
theorem Pm.inj {xs : List Int} (h : Pm xs) : ∀ i j, i < xs.length → j < xs.length → fn xs i = fn xs j → i = j := fun i j hi hj e => by
  have e2 : xs.getD i 0 = xs.getD j 0 := by rw [h.val hi, h.val hj, e]
  rw [getD_lt 0 hi, getD_lt 0 hj] at e2
  exact (List.getElem_inj h.nd).1 e2

/-- the walk along a cycle -/
structure Ob (xs : List Int) (k : Nat) (D0 : Nat → Bool) (x : Nat) (D : Nat → Bool) (c : List Int) : Prop where
  x_eq : x = itr (fn xs) c.length k
  c_eq : ∀ j, j < c.length → c.getD j 0 = (itr (fn xs) j k : Int)
  dis : ∀ i j, i < j → j < c.length → itr (fn xs) i k ≠ itr (fn xs) j k
  mkd : ∀ y, D y = true ↔ D0 y = true ∨ ∃ j, j < c.length ∧ y = itr (fn xs) j k

/-- marked points: with a point its forerunner, and each is on a cycle that was found -/
structure Mk (xs : List Int) (cs : List (List Int)) (D : Nat → Bool) : Prop where
  pre : ∀ y, y < xs.length → D (fn xs y) = true → D y = true
  on : ∀ y, y < xs.length → D y = true → ∃ c ∈ cs, itr (fn xs) c.length y = y

/-- a list out of a map -/
def tabN (n : Nat) (F : Nat → Nat) : List Int := (List.range n).map fun i => (F i : Int)
@[simp] theorem tab_len (n : Nat) (F : Nat → Nat) : (tabN n F).length = n := by simp [tabN]
theorem tabN_get {n : Nat} {F : Nat → Nat} {i : Nat} (h : i < n) : (tabN n F).getD i 0 = (F i : Int) := by simp [tabN, List.getD, h]
theorem tab_ext {n : Nat} {F G : Nat → Nat} (h : ∀ i, i < n → F i = G i) : tabN n F = tabN n G := by
  unfold tabN
  exact List.map_congr_left (fun i hi => by rw [h i (by simpa using hi)])
theorem Pm.tabN {xs : List Int} (h : Pm xs) : xs = tabN xs.length (fn xs) := by
  apply List.ext_getElem
  · simp
  · intro i h1 h2
    have := h.val h1
    rw [getD_lt 0 h1] at this
    rw [this]; simp [Go.Proofs.Ytpmdhkiolgpiaaa.tabN]
/-- the inverse map -/
def gn (xs : List Int) : Nat → Nat := itr (fn xs) (orderOf xs - 1)
end Go.Proofs.Ytpmdhkiolgpiaaa

/- Lists made entry by entry; permutations turned round. No condition of its own. -/
set_option linter.unusedVariables false
set_option linter.unusedSimpArgs false
namespace Go.Proofs.Ytpmdhkiolgpiaaa
open Go.RowKit

theorem V.pair {ρ : Pl} {Z : Nat → Prop} {w : World} {a b : PV} {x y : Value} (h1 : V ρ Z w a x) (h2 : V ρ Z w b y) : V ρ Z w (.tup [a, b]) (.tuple #[x, y]) := .tup _ _ rfl (fun i hi => by
  match i, hi with
  | 0, _ => exact h1
  | 1, _ => exact h2
  | i + 2, h => simp at h; omega)
/-- out[i] = F i for all i below k, the rest 0 -/
def fillT (n k : Nat) (F : Nat → Int) : List Int := (List.range n).map fun i => if i < k then F i else 0
theorem fillT_len (n k : Nat) (F : Nat → Int) : (fillT n k F).length = n := by simp [fillT]
theorem fillT_zero (n : Nat) (F : Nat → Int) : fillT n 0 F = List.replicate n 0 := by
  apply List.ext_getElem
  · simp [fillT]
  · intro i h1 h2; simp [fillT]
theorem fillT_set {n k : Nat} {F : Nat → Int} (hk : k < n) : (fillT n k F).set k (F k) = fillT n (k + 1) F := by
  apply List.ext_getElem
  · simp [fillT]
  · intro i h1 h2
    simp only [fillT, List.length_map, List.length_range] at h2
    rw [List.getElem_set]
    by_cases e : k = i
    · subst e; simp [fillT]
    · rw [if_neg e]
      simp only [fillT, List.getElem_map, List.getElem_range]
      by_cases h3 : i < k
      · rw [if_pos h3, if_pos (by omega)]
      · rw [if_neg h3, if_neg (by omega)]
theorem fillT_all (n : Nat) (F : Nat → Int) : fillT n n F = (List.range n).map F := by
  unfold fillT
  exact List.map_congr_left (fun i hi => by rw [if_pos (by simpa using hi)])
theorem fillT_tab (n : Nat) (F : Nat → Nat) : fillT n n (fun i => (F i : Int)) = tabN n F := fillT_all n _

theorem Fz.pair {h : HP} {a b a' b' : PV} (h1 : Fz h a a') (h2 : Fz h b b') : Fz h (.tup [a, b]) (.tup [a', b']) :=
  .tup rfl (fun i hi => by
    match i, hi with
    | 0, _ => exact h1
    | 1, _ => exact h2
    | i + 2, h => simp at h; omega)
theorem Fz.nil {h : HP} : Fz h (.lst true 0 0 []) (pli []) := Fz.nrm (p := .lst true 0 0 []) rfl
theorem equal_refl (xs : List Int) : SC Try.prog 11 [pli xs, pli xs] (.sc (.bool true)) := by
  have := equal_s xs xs
  rwa [decide_eq_true rfl] at this
end Go.Proofs.Ytpmdhkiolgpiaaa

/- timbref1.Row and timbref1.Points as slices of the caller's own. No condition of its own. -/
set_option linter.unusedVariables false
set_option linter.unusedSimpArgs false
namespace Go.Proofs.Ytpmdhkiolgpiaaa
open Go.RowKit

set_option maxHeartbeats 1000000 in
set_option maxRecDepth 100000 in
theorem rowO_o (n : Nat) (hn : n ≤ 1000) : SCo Try.prog 44 [pint n] 1 n (ints (tabN n id)) := by
  refine SCo.go {} tok mixed Try.func44 rfl rfl Try.ntmps44 rfl rfl (by kernel_rfl) ?_
  first | simp only [updS] | simp only [updL, Nat.reduceAdd]
  repeat (first | refine S0 ?_ | refine S1 ?_ | refine S2 ?_ | refine S4 ?_ | refine S5 ?_ | refine S6 ?_ | refine S7 ?_ | refine S8 ?_ | refine S10 ?_ | refine S11 ?_ | refine S13 ?_ | refine S15 ?_ | refine S16 ?_ | refine S19 ?_ | refine S20 ?_ | refine S21 ?_ | refine S22 ?_ | refine S24 ?_ | refine S27 ?_ | refine S65 ?_ | refine S71 ?_)
  refine CW.loopS (fun k : Nat => k ≤ n) (fun k => [(3, .ref 0 0 1 n), (8, pint n), (9, pint k)]) (fun k h => h.blk 0 = some (ints (fillT n k (fun i => ((id i : Nat) : Int))))) (fun k => n - k) 0 ⟨by omega, SLx, by rw [fillT_zero]; exact HBx⟩ ?_
  rintro k t h hk B
  first | simp only [updS] | simp only [updL, Nat.reduceAdd]
  have hl := fillT_len n k (fun i => ((id i : Nat) : Int))
  by_cases hk2 : k < n
  · have hs : (fillT n k (fun i => ((id i : Nat) : Int))).set k (k : Int) = fillT n (k + 1) (fun i => ((id i : Nat) : Int)) := fillT_set hk2
    repeat (first | refine S0 ?_ | refine S1 ?_ | refine S2 ?_ | refine S4 ?_ | refine S5 ?_ | refine S6 ?_ | refine S7 ?_ | refine S8 ?_ | refine S10 ?_ | refine S11 ?_ | refine S13 ?_ | refine S15 ?_ | refine S16 ?_ | refine S19 ?_ | refine S20 ?_ | refine S21 ?_ | refine S22 ?_ | refine S24 ?_ | refine S27 ?_ | refine S65 ?_ | refine S71 ?_)
    rw [hs]
    exact ⟨k + 1, by omega, SLx, (by (try dsimp only); repeat' (first | exact HBx | exact SBx | refine And.intro ?_ ?_)), by omega⟩
  · obtain rfl : k = n := by omega
    rw [fillT_tab] at B
    repeat (first | refine S0 ?_ | refine S1 ?_ | refine S2 ?_ | refine S4 ?_ | refine S5 ?_ | refine S6 ?_ | refine S7 ?_ | refine S8 ?_ | refine S10 ?_ | refine S11 ?_ | refine S13 ?_ | refine S15 ?_ | refine S16 ?_ | refine S19 ?_ | refine S20 ?_ | refine S21 ?_ | refine S22 ?_ | refine S24 ?_ | refine S27 ?_ | refine S65 ?_ | refine S71 ?_)
    have := Ow.ints (ys := tabN k id) B (tab_len _ _).symm rfl
    rw [tab_len] at this
    exact ⟨.inr rfl, this⟩
theorem points_o (n : Nat) (hn : n ≤ 1000) : SCo Try.prog 23 [pint n] 1 n (ints (tabN n id)) := by
  have k := rowO_o n hn
  refine SCo.go {} tok mixed Try.func23 rfl rfl Try.ntmps23 rfl rfl (by kernel_rfl) ?_
  first | simp only [updS] | simp only [updL, Nat.reduceAdd]
  repeat (first | refine S0 ?_ | refine S1 ?_ | refine S2 ?_ | refine S4 ?_ | refine S5 ?_ | refine S6 ?_ | refine S7 ?_ | refine S8 ?_ | refine S10 ?_ | refine S11 ?_ | refine S13 ?_ | refine S15 ?_ | refine S16 ?_ | refine S19 ?_ | refine S20 ?_ | refine S21 ?_ | refine S22 ?_ | refine S24 ?_ | refine S27 ?_ | refine S65 ?_ | refine S71 ?_)
  refine Scallo (args := [pint n]) k ?_
  repeat (first | refine S0 ?_ | refine S1 ?_ | refine S2 ?_ | refine S4 ?_ | refine S5 ?_ | refine S6 ?_ | refine S7 ?_ | refine S8 ?_ | refine S10 ?_ | refine S11 ?_ | refine S13 ?_ | refine S15 ?_ | refine S16 ?_ | refine S19 ?_ | refine S20 ?_ | refine S21 ?_ | refine S22 ?_ | refine S24 ?_ | refine S27 ?_ | refine S65 ?_ | refine S71 ?_)
  have hB : (H0.add false (ints (tabN n id))).blk 0 = some (ints (tabN n id)) := rfl
  have := Ow.ints (ys := tabN n id) hB (tab_len _ _).symm rfl
  rw [tab_len] at this
  exact ⟨.inr rfl, this⟩
end Go.Proofs.Ytpmdhkiolgpiaaa
