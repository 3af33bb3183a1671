/- Lists made entry by entry; permutations turned round. No condition of its own. -/
import Derived.Test.YtgjfpmjllpgadaaGLinkPartsBD
import Derived.Test.YtgjfpmjllpgadaaGLinkPartsAW
set_option linter.unusedVariables false
set_option linter.unusedSimpArgs false
namespace Go.Proofs.Ytgjfpmjllpgadaa
open Go.RowKit

theorem V.pair {ρ : Pl} {Z : Nat → Prop} {w : World} {a b : PV} {x y : Value} (h1 : V ρ Z w a x) (h2 : V ρ Z w b y) : V ρ Z w (.tup [a, b]) (.tuple #[x, y]) := .tup _ _ rfl (fun i hi => by
  match i, hi with
  | 0, _ => exact h1
  | 1, _ => exact h2
  | i + 2, h => simp at h; omega)
/-- out[i] = F i for all i below k, the rest 0 -/
def fillT (n k : Nat) (F : Nat → Int) : List Int := (List.range n).map fun i => if i < k then F i else 0
theorem fillT_len (n k : Nat) (F : Nat → Int) : (fillT n k F).length = n := by simp [fillT]
theorem fillT_zero (n : Nat) (F : Nat → Int) : fillT n 0 F = List.replicate n 0 := by
  apply List.ext_getElem
  · simp [fillT]
  · intro i h1 h2; simp [fillT]
theorem fillT_set {n k : Nat} {F : Nat → Int} (hk : k < n) : (fillT n k F).set k (F k) = fillT n (k + 1) F := by
  apply List.ext_getElem
  · simp [fillT]
  · intro i h1 h2
    simp only [fillT, List.length_map, List.length_range] at h2
    rw [List.getElem_set]
    by_cases e : k = i
    · subst e; simp [fillT]
    · rw [if_neg e]
      simp only [fillT, List.getElem_map, List.getElem_range]
      by_cases h3 : i < k
      · rw [if_pos h3, if_pos (by omega)]
      · rw [if_neg h3, if_neg (by omega)]
theorem fillT_all (n : Nat) (F : Nat → Int) : fillT n n F = (List.range n).map F := by
  unfold fillT
  exact List.map_congr_left (fun i hi => by rw [if_pos (by simpa using hi)])
theorem fillT_tab (n : Nat) (F : Nat → Nat) : fillT n n (fun i => (F i : Int)) = tabN n F := fillT_all n _

theorem Fz.pair {h : HP} {a b a' b' : PV} (h1 : Fz h a a') (h2 : Fz h b b') : Fz h (.tup [a, b]) (.tup [a', b']) :=
  .tup rfl (fun i hi => by
    match i, hi with
    | 0, _ => exact h1
    | 1, _ => exact h2
    | i + 2, h => simp at h; omega)
theorem Fz.nil {h : HP} : Fz h (.lst true 0 0 []) (pli []) := Fz.nrm (p := .lst true 0 0 []) rfl
set_option maxHeartbeats 1000000 in
set_option maxRecDepth 100000 in
theorem pback_s {n : Nat} {F G : Nat → Nat} {zs : List Int} (hz : zs = tabN n F) (hF : ∀ i, i < n → F i < n) (hG : ∀ i, i < n → G i < n ∧ F (G i) = i ∧ G (F i) = i) (hn : n ≤ 9) : SC Try.prog 68 [pli zs] (pli (tabN n G)) := by
  have hl1 : zs.length = n := by rw [hz]; simp
  refine SC.go {} tok mixed Try.func68 rfl rfl Try.ntmps68 rfl rfl (by kernel_rfl) ?_
  first | simp only [updS] | simp only [updL, Nat.reduceAdd]
  repeat (first | refine S0 ?_ | refine S1 ?_ | refine S2 ?_ | refine S4 ?_ | refine S5 ?_ | refine S6 ?_ | refine S7 ?_ | refine S8 ?_ | refine S10 ?_ | refine S11 ?_ | refine S13 ?_ | refine S15 ?_ | refine S16 ?_ | refine S19 ?_ | refine S20 ?_ | refine S21 ?_ | refine S22 ?_ | refine S23 ?_ | refine S24 ?_ | refine S25 ?_ | refine S26 ?_ | refine S27 ?_ | refine S65 ?_ | refine S71 ?_)
  rw [hl1]
  refine CW.loopS (fun i : Nat × List Int => i.1 ≤ n ∧ i.2.length = n ∧ ∀ j, j < i.1 → i.2.getD (F j) 0 = (j : Int)) (fun i => [(3, .ref 0 0 1 n), (9, pli zs), (10, pint n), (11, pint i.1)]) (fun i h => h.blk 0 = some (ints i.2)) (fun i => n - i.1) (0, List.replicate n 0) ⟨⟨by omega, by simp, fun j hj => by simp at hj⟩, SLx, HBx⟩ ?_
  rintro ⟨k, L⟩ t h ⟨hk, hL, hI⟩ B
  simp only at hk hL hI B
  first | simp only [updS] | simp only [updL, Nat.reduceAdd]
  by_cases hk2 : k < n
  · have e1 : zs.getD k 0 = (F k : Int) := by rw [hz]; exact tabN_get hk2
    have e2 := hF k hk2
    repeat (first | refine S0 ?_ | refine S1 ?_ | refine S2 ?_ | refine S4 ?_ | refine S5 ?_ | refine S6 ?_ | refine S7 ?_ | refine S8 ?_ | refine S10 ?_ | refine S11 ?_ | refine S13 ?_ | refine S15 ?_ | refine S16 ?_ | refine S19 ?_ | refine S20 ?_ | refine S21 ?_ | refine S22 ?_ | refine S23 ?_ | refine S24 ?_ | refine S25 ?_ | refine S26 ?_ | refine S27 ?_ | refine S65 ?_ | refine S71 ?_)
    refine ⟨(k + 1, L.set (zs.getD k 0).toNat k), ⟨by simp only; omega, by simp [hL], fun j hj => ?_⟩, SLx, (by (try dsimp only); repeat' (first | exact HBx | exact SBx | refine And.intro ?_ ?_)), by simp only; omega⟩
    simp only at hj ⊢
    rw [e1, Int.toNat_natCast]
    by_cases e : j = k
    · subst e; simp [List.getD, hL, e2]
    · have hne : F k ≠ F j := fun e3 => e (by rw [← (hG j (by omega)).2.2, ← (hG k hk2).2.2, e3])
      have := hI j (by omega)
      simpa [List.getD, List.getElem?_set_ne hne] using this
  · obtain rfl : k = n := by omega
    have hfin : L = tabN k G := by
      apply List.ext_getElem
      · simp [hL]
      · intro j h1 h2
        have h3 : j < k := by omega
        have := hI (G j) (hG j h3).1
        rw [(hG j h3).2.1, getD_lt 0 h1] at this
        rw [this]; simp [tabN]
    repeat (first | refine S0 ?_ | refine S1 ?_ | refine S2 ?_ | refine S4 ?_ | refine S5 ?_ | refine S6 ?_ | refine S7 ?_ | refine S8 ?_ | refine S10 ?_ | refine S11 ?_ | refine S13 ?_ | refine S15 ?_ | refine S16 ?_ | refine S19 ?_ | refine S20 ?_ | refine S21 ?_ | refine S22 ?_ | refine S23 ?_ | refine S24 ?_ | refine S25 ?_ | refine S26 ?_ | refine S27 ?_ | refine S65 ?_ | refine S71 ?_)
    exact ⟨.inr rfl, Fz.refI HBx hL.symm hfin⟩
set_option maxHeartbeats 1000000 in
set_option maxRecDepth 100000 in
theorem identity_o (n : Nat) (hn : n ≤ 9) : SCo Try.prog 66 [pint n] 1 n (ints (tabN n id)) := by
  refine SCo.go {} tok mixed Try.func66 rfl rfl Try.ntmps66 rfl rfl (by kernel_rfl) ?_
  first | simp only [updS] | simp only [updL, Nat.reduceAdd]
  repeat (first | refine S0 ?_ | refine S1 ?_ | refine S2 ?_ | refine S4 ?_ | refine S5 ?_ | refine S6 ?_ | refine S7 ?_ | refine S8 ?_ | refine S10 ?_ | refine S11 ?_ | refine S13 ?_ | refine S15 ?_ | refine S16 ?_ | refine S19 ?_ | refine S20 ?_ | refine S21 ?_ | refine S22 ?_ | refine S23 ?_ | refine S24 ?_ | refine S25 ?_ | refine S26 ?_ | refine S27 ?_ | refine S65 ?_ | refine S71 ?_)
  refine CW.loopS (fun k : Nat => k ≤ n) (fun k => [(3, .ref 0 0 1 n), (8, pint n), (9, pint k)]) (fun k h => h.blk 0 = some (ints (fillT n k (fun i => ((id i : Nat) : Int))))) (fun k => n - k) 0 ⟨by omega, SLx, by rw [fillT_zero]; exact HBx⟩ ?_
  rintro k t h hk B
  first | simp only [updS] | simp only [updL, Nat.reduceAdd]
  have hl := fillT_len n k (fun i => ((id i : Nat) : Int))
  by_cases hk2 : k < n
  · have hs : (fillT n k (fun i => ((id i : Nat) : Int))).set k (k : Int) = fillT n (k + 1) (fun i => ((id i : Nat) : Int)) := fillT_set hk2
    repeat (first | refine S0 ?_ | refine S1 ?_ | refine S2 ?_ | refine S4 ?_ | refine S5 ?_ | refine S6 ?_ | refine S7 ?_ | refine S8 ?_ | refine S10 ?_ | refine S11 ?_ | refine S13 ?_ | refine S15 ?_ | refine S16 ?_ | refine S19 ?_ | refine S20 ?_ | refine S21 ?_ | refine S22 ?_ | refine S23 ?_ | refine S24 ?_ | refine S25 ?_ | refine S26 ?_ | refine S27 ?_ | refine S65 ?_ | refine S71 ?_)
    rw [hs]
    exact ⟨k + 1, by omega, SLx, (by (try dsimp only); repeat' (first | exact HBx | exact SBx | refine And.intro ?_ ?_)), by omega⟩
  · obtain rfl : k = n := by omega
    rw [fillT_tab] at B
    repeat (first | refine S0 ?_ | refine S1 ?_ | refine S2 ?_ | refine S4 ?_ | refine S5 ?_ | refine S6 ?_ | refine S7 ?_ | refine S8 ?_ | refine S10 ?_ | refine S11 ?_ | refine S13 ?_ | refine S15 ?_ | refine S16 ?_ | refine S19 ?_ | refine S20 ?_ | refine S21 ?_ | refine S22 ?_ | refine S23 ?_ | refine S24 ?_ | refine S25 ?_ | refine S26 ?_ | refine S27 ?_ | refine S65 ?_ | refine S71 ?_)
    have := Ow.ints (ys := tabN k id) B (tab_len _ _).symm rfl
    rw [tab_len] at this
    exact ⟨.inr rfl, this⟩
end Go.Proofs.Ytgjfpmjllpgadaa
