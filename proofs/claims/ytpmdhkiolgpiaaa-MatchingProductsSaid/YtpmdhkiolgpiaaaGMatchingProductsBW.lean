/- temperleylieb's planar and Check, the reference's MatchingFault (written by genMtA.py). No condition of its own. -/
import Derived.Test.YtpmdhkiolgpiaaaGMatchingProductsBV
import Derived.Test.YtpmdhkiolgpiaaaGMatchingProductsBM
set_option linter.unusedVariables false
set_option linter.unusedSimpArgs false
namespace Go.Proofs.Ytpmdhkiolgpiaaa
open Go.RowKit

def stkS (d st : List Int) (p : Int) : List Int := if 0 < st.length ∧ st.getD (st.length - 1) 0 = d.getD p.toNat 0 then st.take (st.length - 1) else st ++ [p]
theorem stk_on {d zs : List Int} {x : Int} (h : zs = [] ∨ ∃ m, zs.length = m + 1 ∧ ¬ zs.getD m 0 = d.getD x.toNat 0) : stkS d zs x = zs ++ [x] := by
  unfold stkS
  refine if_neg ?_
  rintro ⟨h1, h2⟩
  rcases h with rfl | ⟨m, hm, h3⟩
  · simp at h1
  · rw [hm, Nat.add_sub_cancel] at h2; exact h3 h2
theorem stk_pop {d zs : List Int} {x : Int} {m : Nat} (hm : zs.length = m + 1) (h : zs.getD m 0 = d.getD x.toNat 0) : stkS d zs x = zs.take m := by
  unfold stkS
  rw [hm, Nat.add_sub_cancel]
  exact if_pos ⟨by omega, h⟩
theorem stk_len {d : List Int} : ∀ (ps st : List Int), (ps.foldl (stkS d) st).length ≤ st.length + ps.length
  | [], st => by simp
  | p :: ps, st => by
    rw [List.foldl_cons]
    have := stk_len (d := d) ps (stkS d st p)
    have h2 : (stkS d st p).length ≤ st.length + 1 := by unfold stkS; split <;> simp <;> omega
    simp only [List.length_cons]; omega
theorem stk_succ {d ps : List Int} {k : Nat} (hk : k < ps.length) : (ps.take (k + 1)).foldl (stkS d) [] = stkS d ((ps.take k).foldl (stkS d) []) (ps.getD k 0) := by
  rw [List.take_succ_eq_append_getElem hk, List.foldl_append, getD_lt 0 hk]; rfl
def arL (n : Nat) : List Int := (List.range n).map (fun (i : Nat) => (i : Int)) ++ (List.range n).map (fun (i : Nat) => 2 * (n : Int) - 1 - (i : Int))
theorem ar_len (n : Nat) : (arL n).length = 2 * n := by simp [arL]; omega
theorem ar_a {n : Nat} (k : Nat) (h : k < n) : (arL n).getD k 0 = (k : Int) := by simp [arL, List.getD, List.getElem?_append, h]
theorem ar_b {n : Nat} (k : Nat) (h : n ≤ k) (h2 : k < (arL n).length) : (arL n).getD k 0 = 3 * (n : Int) - 1 - k := by
  rw [ar_len] at h2
  have h3 : k - n < n := by omega
  simp [arL, List.getD, List.getElem?_append, show ¬ k < n by omega, h3]
  omega
theorem ar_bd {n : Nat} (k : Nat) (h2 : k < (arL n).length) : 0 ≤ (arL n).getD k 0 ∧ (arL n).getD k 0 < 2 * (n : Int) := by
  have h3 := h2
  rw [ar_len] at h3
  by_cases h : k < n
  · rw [ar_a k h]; omega
  · rw [ar_b k (by omega) h2]; omega
theorem le6' {n : Nat} (h : 1 ≤ n ∧ n ≤ 6) : n = 1 ∨ n = 2 ∨ n = 3 ∨ n = 4 ∨ n = 5 ∨ n = 6 := by omega
def strL (n : Nat) : List Int := (List.range (2 * n)).map fun (i : Nat) => (((i + n) % (2 * n) : Nat) : Int)
def hookL (n i : Nat) : List Int := ((((strL n).set (i - 1) (i : Int)).set i ((i : Int) - 1)).set (n + i - 1) ((n : Int) + i)).set (n + i) ((n : Int) + i - 1)
set_option maxRecDepth 100000 in
theorem around_s {n : Nat} (h : 1 ≤ n ∧ n ≤ 6) : SC Try.prog 55 [pint n] (pli (arL n)) := by
  rcases le6' h with rfl | rfl | rfl | rfl | rfl | rfl <;> exact evP_s tok mixed gTab_ok delLib_ok 1000 (by kernel_rfl)
set_option maxHeartbeats 4000000 in
set_option maxRecDepth 100000 in
theorem strands_s (n : Int) : SC Try.prog 37 [pint n] (pint (if n < 1 ∨ 6 < n then 1 else 0)) := by
  refine SC.go {} tok mixed Try.func37 rfl rfl Try.ntmps37 rfl rfl (by kernel_rfl) ?_
  first | simp only [updS] | simp only [updL, Nat.reduceAdd]
  by_cases h1 : n < 1
  · rw [if_pos (.inl h1)]
    repeat (first | refine S0 ?_ | refine S1 ?_ | refine S2 ?_ | refine S3 ?_ | refine S4 ?_ | refine S5 ?_ | refine S6 ?_ | refine S7 ?_ | refine S8 ?_ | refine S9 ?_ | refine S10 ?_ | refine S11 ?_ | refine S12 ?_ | refine S13 ?_ | refine S15 ?_ | refine S16 ?_ | refine S19 ?_ | refine S20 ?_ | refine S21 ?_ | refine S22 ?_ | refine S23 ?_ | refine S24 ?_ | refine S25 ?_ | refine S26 ?_ | refine S27 ?_ | refine S28 ?_ | refine S29 ?_ | refine S30 ?_ | refine S32 ?_ | refine S33 ?_ | refine S36 ?_ | refine S37 ?_ | refine S38 ?_ | refine S40 ?_ | refine S41 ?_ | refine S46 ?_ | refine S49 ?_ | refine S51 ?_ | refine S63 ?_)
    exact ⟨.inr rfl, .cl rfl⟩
  · by_cases h2 : 6 < n
    · rw [if_pos (.inr h2)]
      repeat (first | refine S0 ?_ | refine S1 ?_ | refine S2 ?_ | refine S3 ?_ | refine S4 ?_ | refine S5 ?_ | refine S6 ?_ | refine S7 ?_ | refine S8 ?_ | refine S9 ?_ | refine S10 ?_ | refine S11 ?_ | refine S12 ?_ | refine S13 ?_ | refine S15 ?_ | refine S16 ?_ | refine S19 ?_ | refine S20 ?_ | refine S21 ?_ | refine S22 ?_ | refine S23 ?_ | refine S24 ?_ | refine S25 ?_ | refine S26 ?_ | refine S27 ?_ | refine S28 ?_ | refine S29 ?_ | refine S30 ?_ | refine S32 ?_ | refine S33 ?_ | refine S36 ?_ | refine S37 ?_ | refine S38 ?_ | refine S40 ?_ | refine S41 ?_ | refine S46 ?_ | refine S49 ?_ | refine S51 ?_ | refine S63 ?_)
      exact ⟨.inr rfl, .cl rfl⟩
    · rw [if_neg (by omega)]
      repeat (first | refine S0 ?_ | refine S1 ?_ | refine S2 ?_ | refine S3 ?_ | refine S4 ?_ | refine S5 ?_ | refine S6 ?_ | refine S7 ?_ | refine S8 ?_ | refine S9 ?_ | refine S10 ?_ | refine S11 ?_ | refine S12 ?_ | refine S13 ?_ | refine S15 ?_ | refine S16 ?_ | refine S19 ?_ | refine S20 ?_ | refine S21 ?_ | refine S22 ?_ | refine S23 ?_ | refine S24 ?_ | refine S25 ?_ | refine S26 ?_ | refine S27 ?_ | refine S28 ?_ | refine S29 ?_ | refine S30 ?_ | refine S32 ?_ | refine S33 ?_ | refine S36 ?_ | refine S37 ?_ | refine S38 ?_ | refine S40 ?_ | refine S41 ?_ | refine S46 ?_ | refine S49 ?_ | refine S51 ?_ | refine S63 ?_)
      exact ⟨.inr rfl, .cl rfl⟩
set_option maxHeartbeats 8000000 in
set_option maxRecDepth 100000 in
theorem planar_s {n : Nat} {ps d : List Int} (ka : SC Try.prog 55 [pint n] (pli ps)) (hpl : ps.length ≤ 12) (hps : ∀ k, k < ps.length → 0 ≤ ps.getD k 0 ∧ ps.getD k 0 < (d.length : Int)) : SC Try.prog 38 [pint n, pli d] (.sc (.bool (decide ((((ps.foldl (stkS d) []).length : Nat) : Int) = 0)))) := by
  refine SC.go {} tok mixed Try.func38 rfl rfl Try.ntmps38 rfl rfl (by kernel_rfl) ?_
  first | simp only [updS] | simp only [updL, Nat.reduceAdd]
  repeat (first | refine S0 ?_ | refine S1 ?_ | refine S2 ?_ | refine S3 ?_ | refine S4 ?_ | refine S5 ?_ | refine S6 ?_ | refine S7 ?_ | refine S8 ?_ | refine S9 ?_ | refine S10 ?_ | refine S11 ?_ | refine S12 ?_ | refine S13 ?_ | refine S15 ?_ | refine S16 ?_ | refine S19 ?_ | refine S20 ?_ | refine S21 ?_ | refine S22 ?_ | refine S23 ?_ | refine S24 ?_ | refine S25 ?_ | refine S26 ?_ | refine S27 ?_ | refine S28 ?_ | refine S29 ?_ | refine S30 ?_ | refine S32 ?_ | refine S33 ?_ | refine S36 ?_ | refine S37 ?_ | refine S38 ?_ | refine S40 ?_ | refine S41 ?_ | refine S46 ?_ | refine S49 ?_ | refine S51 ?_ | refine S63 ?_)
  refine Scall (args := [pint n]) ka ?_
  repeat (first | refine S0 ?_ | refine S1 ?_ | refine S2 ?_ | refine S3 ?_ | refine S4 ?_ | refine S5 ?_ | refine S6 ?_ | refine S7 ?_ | refine S8 ?_ | refine S9 ?_ | refine S10 ?_ | refine S11 ?_ | refine S12 ?_ | refine S13 ?_ | refine S15 ?_ | refine S16 ?_ | refine S19 ?_ | refine S20 ?_ | refine S21 ?_ | refine S22 ?_ | refine S23 ?_ | refine S24 ?_ | refine S25 ?_ | refine S26 ?_ | refine S27 ?_ | refine S28 ?_ | refine S29 ?_ | refine S30 ?_ | refine S32 ?_ | refine S33 ?_ | refine S36 ?_ | refine S37 ?_ | refine S38 ?_ | refine S40 ?_ | refine S41 ?_ | refine S46 ?_ | refine S49 ?_ | refine S51 ?_ | refine S63 ?_)
  refine CW.own 5 1 rfl ?_
  refine CW.loopS (fun i : Nat × List Int × Nat × Nat => i.1 ≤ ps.length ∧ i.2.2.1 ≤ i.2.1.length ∧ i.2.1.take i.2.2.1 = (ps.take i.1).foldl (stkS d) [] ∧ i.2.2.2 % 2 = 0)
    (fun i => [(5, .ref i.2.2.2 0 1 i.2.2.1), (1, pli d), (10, pli ps), (11, pint ps.length), (12, pint i.1)]) (fun i h => h.blk i.2.2.2 = some (ints i.2.1)) (fun i => ps.length - i.1) (0, [], 0, 0) ⟨⟨Nat.zero_le _, by simp, by simp, rfl⟩, SLx, (by (try dsimp only); repeat' (first | exact HBx | exact SBx | refine And.intro ?_ ?_))⟩ ?_
  rintro ⟨k, zs, m, T⟩ t hp ⟨hk, hm, hz, hT⟩ B
  simp only at hk hm hz hT B
  first | simp only [updS] | simp only [updL, Nat.reduceAdd]
  refine CW.trimI T m B ?_
  have hml : (zs.take m).length = m := by simp; omega
  rw [hz] at hml ⊢
  have hB2 := HP.set_same hp T (ints ((ps.take k).foldl (stkS d) []))
  generalize hp.set T (ints ((ps.take k).foldl (stkS d) [])) = hp2 at *
  have hRl := stk_len (ps.take k) (d := d) []
  rw [List.length_take, List.length_nil] at hRl
  by_cases hk2 : k < ps.length
  · have hsx := stk_succ (d := d) hk2
    have hbk := hps k hk2
    generalize hR : (ps.take k).foldl (stkS d) [] = R at *
    subst hml
    clear hz B
    cases hRn : R.length with
    | zero =>
      obtain rfl : R = [] := List.length_eq_zero_iff.1 hRn
      have hp3 := stk_on (d := d) (zs := []) (x := ps.getD k 0) (.inl rfl)
      repeat (first | refine S0 ?_ | refine S1 ?_ | refine S2 ?_ | refine S3 ?_ | refine S4 ?_ | refine S5 ?_ | refine S6 ?_ | refine S7 ?_ | refine S8 ?_ | refine S9 ?_ | refine S10 ?_ | refine S11 ?_ | refine S12 ?_ | refine S13 ?_ | refine S15 ?_ | refine S16 ?_ | refine S19 ?_ | refine S20 ?_ | refine S21 ?_ | refine S22 ?_ | refine S23 ?_ | refine S24 ?_ | refine S25 ?_ | refine S26 ?_ | refine S27 ?_ | refine S28 ?_ | refine S29 ?_ | refine S30 ?_ | refine S32 ?_ | refine S33 ?_ | refine S36 ?_ | refine S37 ?_ | refine S38 ?_ | refine S40 ?_ | refine S41 ?_ | refine S46 ?_ | refine S49 ?_ | refine S51 ?_ | refine S63 ?_)
      exact ⟨(k + 1, [] ++ [ps.getD k 0], 1, 2 * hp2.next), ⟨by simp only; omega, by simp, by simp only; rw [hsx, hp3]; rfl, by simp only; omega⟩, SLx, (by (try dsimp only); repeat' (first | exact HBx | exact SBx | refine And.intro ?_ ?_)), by simp only; omega⟩
    | succ m' =>
      have g1 : R.getD (((m' + 1 : Nat) : Int) - 1).toNat 0 = R.getD m' 0 := by rw [show (((m' + 1 : Nat) : Int) - 1).toNat = m' by omega]
      by_cases c : R.getD m' 0 = d.getD (ps.getD k 0).toNat 0
      · have hp3 := stk_pop hRn c
        repeat (first | refine S0 ?_ | refine S1 ?_ | refine S2 ?_ | refine S3 ?_ | refine S4 ?_ | refine S5 ?_ | refine S6 ?_ | refine S7 ?_ | refine S8 ?_ | refine S9 ?_ | refine S10 ?_ | refine S11 ?_ | refine S12 ?_ | refine S13 ?_ | refine S15 ?_ | refine S16 ?_ | refine S19 ?_ | refine S20 ?_ | refine S21 ?_ | refine S22 ?_ | refine S23 ?_ | refine S24 ?_ | refine S25 ?_ | refine S26 ?_ | refine S27 ?_ | refine S28 ?_ | refine S29 ?_ | refine S30 ?_ | refine S32 ?_ | refine S33 ?_ | refine S36 ?_ | refine S37 ?_ | refine S38 ?_ | refine S40 ?_ | refine S41 ?_ | refine S46 ?_ | refine S49 ?_ | refine S51 ?_ | refine S63 ?_)
        refine AW.slrTo (q := m') (by simp only [evA, upd, putA, ofConst, ofConst.ofCell, Nat.reduceEqDiff, ↓reduceIte, List.map_cons, List.map_nil, List.toList_toArray]; first | done | rfl) rfl (by simp only [evA, upd, putA, ofConst, ofConst.ofCell, Nat.reduceEqDiff, ↓reduceIte, List.map_cons, List.map_nil, List.toList_toArray]; first | done | rfl) (by omega) (by omega) ?_
        repeat (first | refine S0 ?_ | refine S1 ?_ | refine S2 ?_ | refine S3 ?_ | refine S4 ?_ | refine S5 ?_ | refine S6 ?_ | refine S7 ?_ | refine S8 ?_ | refine S9 ?_ | refine S10 ?_ | refine S11 ?_ | refine S12 ?_ | refine S13 ?_ | refine S15 ?_ | refine S16 ?_ | refine S19 ?_ | refine S20 ?_ | refine S21 ?_ | refine S22 ?_ | refine S23 ?_ | refine S24 ?_ | refine S25 ?_ | refine S26 ?_ | refine S27 ?_ | refine S28 ?_ | refine S29 ?_ | refine S30 ?_ | refine S32 ?_ | refine S33 ?_ | refine S36 ?_ | refine S37 ?_ | refine S38 ?_ | refine S40 ?_ | refine S41 ?_ | refine S46 ?_ | refine S49 ?_ | refine S51 ?_ | refine S63 ?_)
        exact ⟨(k + 1, R, m', T), ⟨by simp only; omega, by simp only; omega, by simp only; rw [hsx, hp3], hT⟩, SLx, (by (try dsimp only); repeat' (first | exact HBx | exact SBx | refine And.intro ?_ ?_)), by simp only; omega⟩
      · have hp3 := stk_on (d := d) (zs := R) (x := ps.getD k 0) (.inr ⟨m', hRn, c⟩)
        repeat (first | refine S0 ?_ | refine S1 ?_ | refine S2 ?_ | refine S3 ?_ | refine S4 ?_ | refine S5 ?_ | refine S6 ?_ | refine S7 ?_ | refine S8 ?_ | refine S9 ?_ | refine S10 ?_ | refine S11 ?_ | refine S12 ?_ | refine S13 ?_ | refine S15 ?_ | refine S16 ?_ | refine S19 ?_ | refine S20 ?_ | refine S21 ?_ | refine S22 ?_ | refine S23 ?_ | refine S24 ?_ | refine S25 ?_ | refine S26 ?_ | refine S27 ?_ | refine S28 ?_ | refine S29 ?_ | refine S30 ?_ | refine S32 ?_ | refine S33 ?_ | refine S36 ?_ | refine S37 ?_ | refine S38 ?_ | refine S40 ?_ | refine S41 ?_ | refine S46 ?_ | refine S49 ?_ | refine S51 ?_ | refine S63 ?_)
        exact ⟨(k + 1, R ++ [ps.getD k 0], m' + 1 + 1, 2 * hp2.next), ⟨by simp only; omega, by simp [hRn], by simp only; rw [hsx, hp3]; exact List.take_of_length_le (by simp [hRn]), by simp only; omega⟩, SLx, (by (try dsimp only); repeat' (first | exact HBx | exact SBx | refine And.intro ?_ ?_)), by simp only; omega⟩
  · obtain rfl : k = ps.length := by omega
    rw [List.take_length] at hB2 hml
    subst hml
    generalize hR : ps.foldl (stkS d) [] = R at *
    repeat (first | refine S0 ?_ | refine S1 ?_ | refine S2 ?_ | refine S3 ?_ | refine S4 ?_ | refine S5 ?_ | refine S6 ?_ | refine S7 ?_ | refine S8 ?_ | refine S9 ?_ | refine S10 ?_ | refine S11 ?_ | refine S12 ?_ | refine S13 ?_ | refine S15 ?_ | refine S16 ?_ | refine S19 ?_ | refine S20 ?_ | refine S21 ?_ | refine S22 ?_ | refine S23 ?_ | refine S24 ?_ | refine S25 ?_ | refine S26 ?_ | refine S27 ?_ | refine S28 ?_ | refine S29 ?_ | refine S30 ?_ | refine S32 ?_ | refine S33 ?_ | refine S36 ?_ | refine S37 ?_ | refine S38 ?_ | refine S40 ?_ | refine S41 ?_ | refine S46 ?_ | refine S49 ?_ | refine S51 ?_ | refine S63 ?_)
    exact ⟨.inr rfl, .cl rfl⟩
def bdm (d : List Int) (i : Nat) : Bool := decide (d.getD i 0 < 0) || decide ((d.length : Int) ≤ d.getD i 0) || decide (d.getD i 0 = i) || decide (d.getD (d.getD i 0).toNat 0 ≠ i)
def matF (n : Int) (d : List Int) : Int := if n < 1 ∨ 6 < n then 1 else if (d.length : Int) ≠ 2 * n then 3 else if (List.range d.length).any (bdm d) then 3 else if ((arL n.toNat).foldl (stkS d) []).length ≠ 0 then 3 else 0
theorem any_hit {d : List Int} {i : Nat} (hi : i < d.length) (h : bdm d i = true) : (List.range d.length).any (bdm d) = true := List.any_eq_true.2 ⟨i, List.mem_range.2 hi, h⟩
theorem any_no {d : List Int} (h : ∀ j, j < d.length → bdm d j = false) : (List.range d.length).any (bdm d) = false := by
  rw [List.any_eq_false]; intro j hj; rw [h j (List.mem_range.1 hj)]; simp
set_option maxHeartbeats 8000000 in
set_option maxRecDepth 100000 in
theorem tcheck_s (n : Int) (d : List Int) : SC Try.prog 20 [pint n, pli d] (pint (matF n d)) := by
  have ks := strands_s n
  refine SC.go {} tok mixed Try.func20 rfl rfl Try.ntmps20 rfl rfl (by kernel_rfl) ?_
  first | simp only [updS] | simp only [updL, Nat.reduceAdd]
  unfold matF
  by_cases h0 : n < 1 ∨ 6 < n
  · rw [if_pos h0] at ks ⊢
    repeat (first | refine S0 ?_ | refine S1 ?_ | refine S2 ?_ | refine S3 ?_ | refine S4 ?_ | refine S5 ?_ | refine S6 ?_ | refine S7 ?_ | refine S8 ?_ | refine S9 ?_ | refine S10 ?_ | refine S11 ?_ | refine S12 ?_ | refine S13 ?_ | refine S15 ?_ | refine S16 ?_ | refine S19 ?_ | refine S20 ?_ | refine S21 ?_ | refine S22 ?_ | refine S23 ?_ | refine S24 ?_ | refine S25 ?_ | refine S26 ?_ | refine S27 ?_ | refine S28 ?_ | refine S29 ?_ | refine S30 ?_ | refine S32 ?_ | refine S33 ?_ | refine S36 ?_ | refine S37 ?_ | refine S38 ?_ | refine S40 ?_ | refine S41 ?_ | refine S46 ?_ | refine S49 ?_ | refine S51 ?_ | refine S63 ?_)
    refine Scall (args := [pint n]) ks ?_
    repeat (first | refine S0 ?_ | refine S1 ?_ | refine S2 ?_ | refine S3 ?_ | refine S4 ?_ | refine S5 ?_ | refine S6 ?_ | refine S7 ?_ | refine S8 ?_ | refine S9 ?_ | refine S10 ?_ | refine S11 ?_ | refine S12 ?_ | refine S13 ?_ | refine S15 ?_ | refine S16 ?_ | refine S19 ?_ | refine S20 ?_ | refine S21 ?_ | refine S22 ?_ | refine S23 ?_ | refine S24 ?_ | refine S25 ?_ | refine S26 ?_ | refine S27 ?_ | refine S28 ?_ | refine S29 ?_ | refine S30 ?_ | refine S32 ?_ | refine S33 ?_ | refine S36 ?_ | refine S37 ?_ | refine S38 ?_ | refine S40 ?_ | refine S41 ?_ | refine S46 ?_ | refine S49 ?_ | refine S51 ?_ | refine S63 ?_)
    exact ⟨.inr rfl, .cl rfl⟩
  rw [if_neg h0] at ks ⊢
  by_cases hl : (d.length : Int) ≠ 2 * n
  · rw [if_pos hl]
    repeat (first | refine S0 ?_ | refine S1 ?_ | refine S2 ?_ | refine S3 ?_ | refine S4 ?_ | refine S5 ?_ | refine S6 ?_ | refine S7 ?_ | refine S8 ?_ | refine S9 ?_ | refine S10 ?_ | refine S11 ?_ | refine S12 ?_ | refine S13 ?_ | refine S15 ?_ | refine S16 ?_ | refine S19 ?_ | refine S20 ?_ | refine S21 ?_ | refine S22 ?_ | refine S23 ?_ | refine S24 ?_ | refine S25 ?_ | refine S26 ?_ | refine S27 ?_ | refine S28 ?_ | refine S29 ?_ | refine S30 ?_ | refine S32 ?_ | refine S33 ?_ | refine S36 ?_ | refine S37 ?_ | refine S38 ?_ | refine S40 ?_ | refine S41 ?_ | refine S46 ?_ | refine S49 ?_ | refine S51 ?_ | refine S63 ?_)
    refine Scall (args := [pint n]) ks ?_
    repeat (first | refine S0 ?_ | refine S1 ?_ | refine S2 ?_ | refine S3 ?_ | refine S4 ?_ | refine S5 ?_ | refine S6 ?_ | refine S7 ?_ | refine S8 ?_ | refine S9 ?_ | refine S10 ?_ | refine S11 ?_ | refine S12 ?_ | refine S13 ?_ | refine S15 ?_ | refine S16 ?_ | refine S19 ?_ | refine S20 ?_ | refine S21 ?_ | refine S22 ?_ | refine S23 ?_ | refine S24 ?_ | refine S25 ?_ | refine S26 ?_ | refine S27 ?_ | refine S28 ?_ | refine S29 ?_ | refine S30 ?_ | refine S32 ?_ | refine S33 ?_ | refine S36 ?_ | refine S37 ?_ | refine S38 ?_ | refine S40 ?_ | refine S41 ?_ | refine S46 ?_ | refine S49 ?_ | refine S51 ?_ | refine S63 ?_)
    exact ⟨.inr rfl, .cl rfl⟩
  rw [if_neg hl]
  obtain ⟨N, rfl⟩ : ∃ N : Nat, n = (N : Int) := ⟨n.toNat, by omega⟩
  rw [Int.toNat_natCast]
  have kp := planar_s (n := N) (d := d) (around_s (n := N) (by omega)) (by rw [ar_len]; omega) (fun k hk => by have := ar_bd k hk; omega)
  repeat (first | refine S0 ?_ | refine S1 ?_ | refine S2 ?_ | refine S3 ?_ | refine S4 ?_ | refine S5 ?_ | refine S6 ?_ | refine S7 ?_ | refine S8 ?_ | refine S9 ?_ | refine S10 ?_ | refine S11 ?_ | refine S12 ?_ | refine S13 ?_ | refine S15 ?_ | refine S16 ?_ | refine S19 ?_ | refine S20 ?_ | refine S21 ?_ | refine S22 ?_ | refine S23 ?_ | refine S24 ?_ | refine S25 ?_ | refine S26 ?_ | refine S27 ?_ | refine S28 ?_ | refine S29 ?_ | refine S30 ?_ | refine S32 ?_ | refine S33 ?_ | refine S36 ?_ | refine S37 ?_ | refine S38 ?_ | refine S40 ?_ | refine S41 ?_ | refine S46 ?_ | refine S49 ?_ | refine S51 ?_ | refine S63 ?_)
  refine Scall (args := [pint N]) ks ?_
  repeat (first | refine S0 ?_ | refine S1 ?_ | refine S2 ?_ | refine S3 ?_ | refine S4 ?_ | refine S5 ?_ | refine S6 ?_ | refine S7 ?_ | refine S8 ?_ | refine S9 ?_ | refine S10 ?_ | refine S11 ?_ | refine S12 ?_ | refine S13 ?_ | refine S15 ?_ | refine S16 ?_ | refine S19 ?_ | refine S20 ?_ | refine S21 ?_ | refine S22 ?_ | refine S23 ?_ | refine S24 ?_ | refine S25 ?_ | refine S26 ?_ | refine S27 ?_ | refine S28 ?_ | refine S29 ?_ | refine S30 ?_ | refine S32 ?_ | refine S33 ?_ | refine S36 ?_ | refine S37 ?_ | refine S38 ?_ | refine S40 ?_ | refine S41 ?_ | refine S46 ?_ | refine S49 ?_ | refine S51 ?_ | refine S63 ?_)
  refine CW.loopS (fun i : Nat => i ≤ d.length ∧ ∀ j, j < i → bdm d j = false) (fun i => [(0, pint N), (1, pli d), (18, pli d), (19, pint d.length), (20, pint i)]) (fun _ _ => True) (fun i => d.length - i) 0 ⟨⟨Nat.zero_le _, fun j hj => absurd hj (Nat.not_lt_zero _)⟩, SLx, trivial⟩ ?_
  rintro i t hp ⟨hi, hall⟩ _
  first | simp only [updS] | simp only [updL, Nat.reduceAdd]
  by_cases hi2 : i < d.length
  · by_cases c1 : d.getD i 0 < 0
    · rw [any_hit hi2 (show bdm d i = true by unfold bdm; simp only [c1, decide_true, Bool.true_or, Bool.or_true]), if_pos rfl]
      repeat (first | refine S0 ?_ | refine S1 ?_ | refine S2 ?_ | refine S3 ?_ | refine S4 ?_ | refine S5 ?_ | refine S6 ?_ | refine S7 ?_ | refine S8 ?_ | refine S9 ?_ | refine S10 ?_ | refine S11 ?_ | refine S12 ?_ | refine S13 ?_ | refine S15 ?_ | refine S16 ?_ | refine S19 ?_ | refine S20 ?_ | refine S21 ?_ | refine S22 ?_ | refine S23 ?_ | refine S24 ?_ | refine S25 ?_ | refine S26 ?_ | refine S27 ?_ | refine S28 ?_ | refine S29 ?_ | refine S30 ?_ | refine S32 ?_ | refine S33 ?_ | refine S36 ?_ | refine S37 ?_ | refine S38 ?_ | refine S40 ?_ | refine S41 ?_ | refine S46 ?_ | refine S49 ?_ | refine S51 ?_ | refine S63 ?_)
      exact ⟨.inr rfl, .cl rfl⟩
    by_cases c2 : (d.length : Int) ≤ d.getD i 0
    · rw [any_hit hi2 (show bdm d i = true by unfold bdm; simp only [c2, decide_true, Bool.true_or, Bool.or_true]), if_pos rfl]
      repeat (first | refine S0 ?_ | refine S1 ?_ | refine S2 ?_ | refine S3 ?_ | refine S4 ?_ | refine S5 ?_ | refine S6 ?_ | refine S7 ?_ | refine S8 ?_ | refine S9 ?_ | refine S10 ?_ | refine S11 ?_ | refine S12 ?_ | refine S13 ?_ | refine S15 ?_ | refine S16 ?_ | refine S19 ?_ | refine S20 ?_ | refine S21 ?_ | refine S22 ?_ | refine S23 ?_ | refine S24 ?_ | refine S25 ?_ | refine S26 ?_ | refine S27 ?_ | refine S28 ?_ | refine S29 ?_ | refine S30 ?_ | refine S32 ?_ | refine S33 ?_ | refine S36 ?_ | refine S37 ?_ | refine S38 ?_ | refine S40 ?_ | refine S41 ?_ | refine S46 ?_ | refine S49 ?_ | refine S51 ?_ | refine S63 ?_)
      exact ⟨.inr rfl, .cl rfl⟩
    by_cases c3 : d.getD i 0 = i
    · rw [any_hit hi2 (show bdm d i = true by unfold bdm; simp only [c3, decide_true, Bool.true_or, Bool.or_true]), if_pos rfl]
      repeat (first | refine S0 ?_ | refine S1 ?_ | refine S2 ?_ | refine S3 ?_ | refine S4 ?_ | refine S5 ?_ | refine S6 ?_ | refine S7 ?_ | refine S8 ?_ | refine S9 ?_ | refine S10 ?_ | refine S11 ?_ | refine S12 ?_ | refine S13 ?_ | refine S15 ?_ | refine S16 ?_ | refine S19 ?_ | refine S20 ?_ | refine S21 ?_ | refine S22 ?_ | refine S23 ?_ | refine S24 ?_ | refine S25 ?_ | refine S26 ?_ | refine S27 ?_ | refine S28 ?_ | refine S29 ?_ | refine S30 ?_ | refine S32 ?_ | refine S33 ?_ | refine S36 ?_ | refine S37 ?_ | refine S38 ?_ | refine S40 ?_ | refine S41 ?_ | refine S46 ?_ | refine S49 ?_ | refine S51 ?_ | refine S63 ?_)
      exact ⟨.inr rfl, .cl rfl⟩
    by_cases c4 : d.getD (d.getD i 0).toNat 0 = i
    · have hb : bdm d i = false := by unfold bdm; simp only [c1, c2, c3, c4, decide_false, ne_eq, not_true_eq_false, Bool.or_false]
      repeat (first | refine S0 ?_ | refine S1 ?_ | refine S2 ?_ | refine S3 ?_ | refine S4 ?_ | refine S5 ?_ | refine S6 ?_ | refine S7 ?_ | refine S8 ?_ | refine S9 ?_ | refine S10 ?_ | refine S11 ?_ | refine S12 ?_ | refine S13 ?_ | refine S15 ?_ | refine S16 ?_ | refine S19 ?_ | refine S20 ?_ | refine S21 ?_ | refine S22 ?_ | refine S23 ?_ | refine S24 ?_ | refine S25 ?_ | refine S26 ?_ | refine S27 ?_ | refine S28 ?_ | refine S29 ?_ | refine S30 ?_ | refine S32 ?_ | refine S33 ?_ | refine S36 ?_ | refine S37 ?_ | refine S38 ?_ | refine S40 ?_ | refine S41 ?_ | refine S46 ?_ | refine S49 ?_ | refine S51 ?_ | refine S63 ?_)
      exact ⟨i + 1, ⟨hi2, fun j hj => by rcases Nat.lt_succ_iff_lt_or_eq.1 hj with h | rfl; exact hall j h; exact hb⟩, SLx, trivial, by omega⟩
    · rw [any_hit hi2 (show bdm d i = true by unfold bdm; simp only [ne_eq, c4, not_false_eq_true, decide_true, Bool.true_or, Bool.or_true]), if_pos rfl]
      repeat (first | refine S0 ?_ | refine S1 ?_ | refine S2 ?_ | refine S3 ?_ | refine S4 ?_ | refine S5 ?_ | refine S6 ?_ | refine S7 ?_ | refine S8 ?_ | refine S9 ?_ | refine S10 ?_ | refine S11 ?_ | refine S12 ?_ | refine S13 ?_ | refine S15 ?_ | refine S16 ?_ | refine S19 ?_ | refine S20 ?_ | refine S21 ?_ | refine S22 ?_ | refine S23 ?_ | refine S24 ?_ | refine S25 ?_ | refine S26 ?_ | refine S27 ?_ | refine S28 ?_ | refine S29 ?_ | refine S30 ?_ | refine S32 ?_ | refine S33 ?_ | refine S36 ?_ | refine S37 ?_ | refine S38 ?_ | refine S40 ?_ | refine S41 ?_ | refine S46 ?_ | refine S49 ?_ | refine S51 ?_ | refine S63 ?_)
      exact ⟨.inr rfl, .cl rfl⟩
  · obtain rfl : i = d.length := by omega
    rw [any_no hall, if_neg (by simp)]
    repeat (first | refine S0 ?_ | refine S1 ?_ | refine S2 ?_ | refine S3 ?_ | refine S4 ?_ | refine S5 ?_ | refine S6 ?_ | refine S7 ?_ | refine S8 ?_ | refine S9 ?_ | refine S10 ?_ | refine S11 ?_ | refine S12 ?_ | refine S13 ?_ | refine S15 ?_ | refine S16 ?_ | refine S19 ?_ | refine S20 ?_ | refine S21 ?_ | refine S22 ?_ | refine S23 ?_ | refine S24 ?_ | refine S25 ?_ | refine S26 ?_ | refine S27 ?_ | refine S28 ?_ | refine S29 ?_ | refine S30 ?_ | refine S32 ?_ | refine S33 ?_ | refine S36 ?_ | refine S37 ?_ | refine S38 ?_ | refine S40 ?_ | refine S41 ?_ | refine S46 ?_ | refine S49 ?_ | refine S51 ?_ | refine S63 ?_)
    refine Scall (args := [pint N, pli d]) kp ?_
    by_cases h5 : ((((arL N).foldl (stkS d) []).length : Nat) : Int) = 0
    · rw [decide_eq_true h5, if_neg (by omega)]
      repeat (first | refine S0 ?_ | refine S1 ?_ | refine S2 ?_ | refine S3 ?_ | refine S4 ?_ | refine S5 ?_ | refine S6 ?_ | refine S7 ?_ | refine S8 ?_ | refine S9 ?_ | refine S10 ?_ | refine S11 ?_ | refine S12 ?_ | refine S13 ?_ | refine S15 ?_ | refine S16 ?_ | refine S19 ?_ | refine S20 ?_ | refine S21 ?_ | refine S22 ?_ | refine S23 ?_ | refine S24 ?_ | refine S25 ?_ | refine S26 ?_ | refine S27 ?_ | refine S28 ?_ | refine S29 ?_ | refine S30 ?_ | refine S32 ?_ | refine S33 ?_ | refine S36 ?_ | refine S37 ?_ | refine S38 ?_ | refine S40 ?_ | refine S41 ?_ | refine S46 ?_ | refine S49 ?_ | refine S51 ?_ | refine S63 ?_)
      exact ⟨.inr rfl, .cl rfl⟩
    · rw [decide_eq_false h5, if_pos (by omega)]
      repeat (first | refine S0 ?_ | refine S1 ?_ | refine S2 ?_ | refine S3 ?_ | refine S4 ?_ | refine S5 ?_ | refine S6 ?_ | refine S7 ?_ | refine S8 ?_ | refine S9 ?_ | refine S10 ?_ | refine S11 ?_ | refine S12 ?_ | refine S13 ?_ | refine S15 ?_ | refine S16 ?_ | refine S19 ?_ | refine S20 ?_ | refine S21 ?_ | refine S22 ?_ | refine S23 ?_ | refine S24 ?_ | refine S25 ?_ | refine S26 ?_ | refine S27 ?_ | refine S28 ?_ | refine S29 ?_ | refine S30 ?_ | refine S32 ?_ | refine S33 ?_ | refine S36 ?_ | refine S37 ?_ | refine S38 ?_ | refine S40 ?_ | refine S41 ?_ | refine S46 ?_ | refine S49 ?_ | refine S51 ?_ | refine S63 ?_)
      exact ⟨.inr rfl, .cl rfl⟩
end Go.Proofs.Ytpmdhkiolgpiaaa
