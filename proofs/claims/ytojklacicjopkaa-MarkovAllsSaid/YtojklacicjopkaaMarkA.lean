/- markov.Apply. No condition of its own. -/
import Derived.Test.YtojklacicjopkaaBraidI
import Derived.Test.YtojklacicjopkaaGrowC
import Derived.Test.YtojklacicjopkaaAbsV
set_option linter.unusedVariables false
set_option linter.unusedSimpArgs false
namespace Go.Proofs.Ytojklacicjopkaa
open Go.RowKit

/-- what a move makes of a word: strands, word, error -/
structure Mv where
  k : Int
  x : List Int
  f : Int
def badM (f : Int) : Mv := ⟨0, [], f⟩
def wAt (w : List Int) (i : Nat) : Int := w.getD i 0
def insW (n : Int) (w : List Int) (a L : Int) : List Int × Int := if a < 0 ∨ w.length < a ∨ ¬ letP n L then ([], 1) else (w.take a.toNat ++ [L, -L] ++ w.drop a.toNat, 0)
def delW (w : List Int) (a : Int) : List Int × Int := if a < 0 ∨ w.length < a + 2 then ([], 1) else if wAt w a.toNat = -(wAt w (a.toNat + 1)) then (w.take a.toNat ++ w.drop (a.toNat + 2), 0) else ([], 4)
def comP (x y : Int) : Prop := 2 ≤ absI x - absI y ∨ absI x - absI y ≤ -2
instance (x y : Int) : Decidable (comP x y) := by unfold comP; exact inferInstance
def comW (w : List Int) (a : Int) : List Int × Int := if a < 0 ∨ w.length < a + 2 then ([], 1) else if comP (wAt w a.toNat) (wAt w (a.toNat + 1)) then (w.take a.toNat ++ [wAt w (a.toNat + 1), wAt w a.toNat] ++ w.drop (a.toNat + 2), 0) else ([], 4)
def sliP (x y z : Int) : Prop := x = z ∧ (0 < x ↔ 0 < y) ∧ (x - y = 1 ∨ x - y = -1)
instance (x y z : Int) : Decidable (sliP x y z) := by unfold sliP; exact inferInstance
def sliW (w : List Int) (a : Int) : List Int × Int := if a < 0 ∨ w.length < a + 3 then ([], 1) else if sliP (wAt w a.toNat) (wAt w (a.toNat + 1)) (wAt w (a.toNat + 2)) then (w.take a.toNat ++ [wAt w (a.toNat + 1), wAt w a.toNat, wAt w (a.toNat + 1)] ++ w.drop (a.toNat + 3), 0) else ([], 4)
def lasP (n : Int) (w : List Int) : Prop := 1 < n ∧ ∃ m, w.length = m + 1 ∧ absI (wAt w m) = n - 1 ∧ ∀ j, j < m → absI (wAt w j) ≠ n - 1
noncomputable instance (n : Int) (w : List Int) : Decidable (lasP n w) := Classical.propDecidable _
/-- what a move makes of the word, ahead of the limits -/
noncomputable def perW (n : Int) (w : List Int) (K a L : Int) : Mv :=
  if K = 1 then ⟨n, (insW n w a L).1, (insW n w a L).2⟩ else if K = 2 then ⟨n, (delW w a).1, (delW w a).2⟩ else if K = 3 then ⟨n, (comW w a).1, (comW w a).2⟩ else if K = 4 then ⟨n, (sliW w a).1, (sliW w a).2⟩
  else if K = 5 then (if w.length = 0 then badM 4 else ⟨n, w.drop 1 ++ w.take 1, 0⟩)
  else if K = 6 then (if L ≠ 1 ∧ L ≠ -1 then badM 1 else ⟨n + 1, w ++ [L * n], 0⟩)
  else (if lasP n w then ⟨n - 1, w.take (w.length - 1), 0⟩ else badM 4)
/-- THE MOVE of a good word -/
noncomputable def mvR (n : Int) (w : List Int) (K a L : Int) : Mv :=
  if K < 1 ∨ 7 < K then badM 3 else if (perW n w K a L).f ≠ 0 then badM (perW n w K a L).f else if 6 < (perW n w K a L).k ∨ 30 < (perW n w K a L).x.length then badM 2 else perW n w K a L

set_option maxHeartbeats 2000000 in
set_option maxRecDepth 100000 in
theorem part_bad {w : List Int} {a c : Int} (hl : w.length ≤ 1000) (hc : 0 ≤ c ∧ c ≤ 10) (h : a < 0 ∨ w.length < a + c) : SC Try.prog 32 [pli w, pint a, pint c] (.tup [pli [], .sc (.bool false)]) := by
  refine SC.go {} tok mixed Try.func32 rfl rfl Try.ntmps32 rfl rfl (by kernel_rfl) ?_
  first | simp only [updS] | simp only [updL, Nat.reduceAdd]
  by_cases h1 : a < 0
  · repeat (first | refine S0 ?_ | refine S1 ?_ | refine S2 ?_ | refine S3 ?_ | refine S4 ?_ | refine S5 ?_ | refine S6 ?_ | refine S7 ?_ | refine S8 ?_ | refine S9 ?_ | refine S10 ?_ | refine S11 ?_ | refine S12 ?_ | refine S13 ?_ | refine S14 ?_ | refine S15 ?_ | refine S16 ?_ | refine S17 ?_ ?_ | refine S18 ?_ | refine S19 ?_ | refine S20 ?_ | refine S21 ?_ | refine S22 ?_ | refine S23 ?_ | refine S24 ?_ | refine S25 ?_ | refine S26 ?_ | refine S27 ?_ | refine S28 ?_ | refine S29 ?_ | refine S30 ?_ | refine S31 ?_ | refine S32 ?_ | refine S33 ?_ | refine S34 ?_ | refine S35 ?_ | refine S36 ?_ | refine S37 ?_ | refine S38 ?_ | refine S39 ?_ | refine S40 ?_ | refine S41 ?_ | refine S42 ?_ | refine S43 ?_ | refine S44 ?_ | refine S45 ?_ | refine S46 ?_ | refine S47 ?_ | refine S48 ?_ | refine S49 ?_ | refine S50 ?_ | refine S51 ?_ | refine S52 ?_ | refine S53 ?_ | refine S54 ?_ | refine S55 ?_ | refine S56 ?_ | refine S57 ?_ | refine S58 ?_ | refine S59 ?_ | refine S60 ?_ | refine S61 ?_ | refine S62 ?_ | refine S63 ?_ | refine S64 ?_ | refine S65 ?_ | refine S66 ?_ | refine S67 ?_ | refine S68 ?_ | refine S69 ?_ | refine S70 ?_ | refine S71 ?_ | refine S72 ?_ | refine S73 ?_ | refine S74 ?_ | refine S75 ?_ | refine S76 ?_ | refine S77 ?_ | refine S78 ?_ | refine S79 ?_ | refine S80 ?_ | refine S81 ?_ | refine S82 ?_ | refine S83 ?_ | refine S84 ?_ | refine S85 ?_ | refine S86 ?_)
    exact ⟨.inr rfl, Fz.pair (.nrm rfl) (.cl rfl)⟩
  · have h2 : (w.length : Int) - c < a := by omega
    repeat (first | refine S0 ?_ | refine S1 ?_ | refine S2 ?_ | refine S3 ?_ | refine S4 ?_ | refine S5 ?_ | refine S6 ?_ | refine S7 ?_ | refine S8 ?_ | refine S9 ?_ | refine S10 ?_ | refine S11 ?_ | refine S12 ?_ | refine S13 ?_ | refine S14 ?_ | refine S15 ?_ | refine S16 ?_ | refine S17 ?_ ?_ | refine S18 ?_ | refine S19 ?_ | refine S20 ?_ | refine S21 ?_ | refine S22 ?_ | refine S23 ?_ | refine S24 ?_ | refine S25 ?_ | refine S26 ?_ | refine S27 ?_ | refine S28 ?_ | refine S29 ?_ | refine S30 ?_ | refine S31 ?_ | refine S32 ?_ | refine S33 ?_ | refine S34 ?_ | refine S35 ?_ | refine S36 ?_ | refine S37 ?_ | refine S38 ?_ | refine S39 ?_ | refine S40 ?_ | refine S41 ?_ | refine S42 ?_ | refine S43 ?_ | refine S44 ?_ | refine S45 ?_ | refine S46 ?_ | refine S47 ?_ | refine S48 ?_ | refine S49 ?_ | refine S50 ?_ | refine S51 ?_ | refine S52 ?_ | refine S53 ?_ | refine S54 ?_ | refine S55 ?_ | refine S56 ?_ | refine S57 ?_ | refine S58 ?_ | refine S59 ?_ | refine S60 ?_ | refine S61 ?_ | refine S62 ?_ | refine S63 ?_ | refine S64 ?_ | refine S65 ?_ | refine S66 ?_ | refine S67 ?_ | refine S68 ?_ | refine S69 ?_ | refine S70 ?_ | refine S71 ?_ | refine S72 ?_ | refine S73 ?_ | refine S74 ?_ | refine S75 ?_ | refine S76 ?_ | refine S77 ?_ | refine S78 ?_ | refine S79 ?_ | refine S80 ?_ | refine S81 ?_ | refine S82 ?_ | refine S83 ?_ | refine S84 ?_ | refine S85 ?_ | refine S86 ?_)
    exact ⟨.inr rfl, Fz.pair (.nrm rfl) (.cl rfl)⟩
set_option maxHeartbeats 2000000 in
set_option maxRecDepth 100000 in
theorem part_ok {w : List Int} {a c : Nat} (hl : w.length ≤ 1000) (hc : c ≤ 10) (h : a + c ≤ w.length) : SC Try.prog 32 [pli w, pint a, pint c] (.tup [pli ((w.take (a + c)).drop a), .sc (.bool true)]) := by
  refine SC.go {} tok mixed Try.func32 rfl rfl Try.ntmps32 rfl rfl (by kernel_rfl) ?_
  first | simp only [updS] | simp only [updL, Nat.reduceAdd]
  have e : ((a : Int) + (c : Int)).toNat = a + c := by omega
  rw [← e]
  repeat (first | refine S0 ?_ | refine S1 ?_ | refine S2 ?_ | refine S3 ?_ | refine S4 ?_ | refine S5 ?_ | refine S6 ?_ | refine S7 ?_ | refine S8 ?_ | refine S9 ?_ | refine S10 ?_ | refine S11 ?_ | refine S12 ?_ | refine S13 ?_ | refine S14 ?_ | refine S15 ?_ | refine S16 ?_ | refine S17 ?_ ?_ | refine S18 ?_ | refine S19 ?_ | refine S20 ?_ | refine S21 ?_ | refine S22 ?_ | refine S23 ?_ | refine S24 ?_ | refine S25 ?_ | refine S26 ?_ | refine S27 ?_ | refine S28 ?_ | refine S29 ?_ | refine S30 ?_ | refine S31 ?_ | refine S32 ?_ | refine S33 ?_ | refine S34 ?_ | refine S35 ?_ | refine S36 ?_ | refine S37 ?_ | refine S38 ?_ | refine S39 ?_ | refine S40 ?_ | refine S41 ?_ | refine S42 ?_ | refine S43 ?_ | refine S44 ?_ | refine S45 ?_ | refine S46 ?_ | refine S47 ?_ | refine S48 ?_ | refine S49 ?_ | refine S50 ?_ | refine S51 ?_ | refine S52 ?_ | refine S53 ?_ | refine S54 ?_ | refine S55 ?_ | refine S56 ?_ | refine S57 ?_ | refine S58 ?_ | refine S59 ?_ | refine S60 ?_ | refine S61 ?_ | refine S62 ?_ | refine S63 ?_ | refine S64 ?_ | refine S65 ?_ | refine S66 ?_ | refine S67 ?_ | refine S68 ?_ | refine S69 ?_ | refine S70 ?_ | refine S71 ?_ | refine S72 ?_ | refine S73 ?_ | refine S74 ?_ | refine S75 ?_ | refine S76 ?_ | refine S77 ?_ | refine S78 ?_ | refine S79 ?_ | refine S80 ?_ | refine S81 ?_ | refine S82 ?_ | refine S83 ?_ | refine S84 ?_ | refine S85 ?_ | refine S86 ?_)
  exact ⟨.inr rfl, Fz.pair (show Fz _ (pli _) (pli _) from .cl (pli_cl _)) (.cl rfl)⟩
end Go.Proofs.Ytojklacicjopkaa
