/- timbref1.Equals at equal braids; the law GarsideForms holds for all words. No condition of its own. -/
import Derived.Test.YtgjfpmjllpgadaaGGarsideFormsBU
import Derived.Test.YtgjfpmjllpgadaaGGarsideFormsBW
import Derived.Test.YtgjfpmjllpgadaaGGarsideFormsBX
import Derived.Test.YtgjfpmjllpgadaaGGarsideFormsBY
import Derived.Test.YtgjfpmjllpgadaaGGarsideFormsBD
set_option linter.unusedVariables false
set_option linter.unusedSimpArgs false
namespace Go.Proofs.Ytgjfpmjllpgadaa
open Go.RowKit

set_option maxHeartbeats 16000000 in
set_option maxRecDepth 100000 in
theorem equals_w {n : Nat} {a b : List Int} (hn : n ≤ 6) (ha : brd n a) (hb : brd n b) (hla : a.length ≤ 1000) (hlb : b.length ≤ 1000) (hw : WE n a b) (hB : PB n [] (invW a ++ b) 3600000000000) : SC Try.prog 52 [pint n, pli a, pli b] (.sc (.bool true)) := by
  have hil : (invW a).length = a.length := by simp [invW]
  have ko := opposite_s (w := a) hla (fun k hk => by
    have := ha (a.getD k 0) (by rw [getD_lt 0 hk]; exact List.getElem_mem hk)
    omega)
  have kc := concat_s (cs := [(false, invL a), (false, b)]) (by simp) (by show (invL a ++ (b ++ [])).length ≤ 100000; rw [List.append_nil, List.length_append, invL_eq]; omega)
  rw [show flat [(false, invL a), (false, b)] = invW a ++ b by show invL a ++ (b ++ []) = _; rw [List.append_nil]; rfl] at kc
  have hbr : brd n (invW a ++ b) := brd_app (brd_inv ha) hb
  have hl : (invW a ++ b).length ≤ 100000 := by rw [List.length_append]; omega
  have heq : ∀ x : Int, 1 ≤ x ∧ x ≤ n → img (invW a ++ b) [x] = [x] := fun x hx => hw.eqv ha (inr_one hx) trivial
  refine SC.go {} tok mixed Try.func52 rfl rfl Try.ntmps52 rfl rfl (by kernel_rfl) ?_
  first | simp only [updS] | simp only [updL, Nat.reduceAdd]
  repeat (first | refine S0 ?_ | refine S1 ?_ | refine S2 ?_ | refine S4 ?_ | refine S5 ?_ | refine S6 ?_ | refine S7 ?_ | refine S8 ?_ | refine S9 ?_ | refine S10 ?_ | refine S11 ?_ | refine S13 ?_ | refine S15 ?_ | refine S16 ?_ | refine S19 ?_ | refine S20 ?_ | refine S22 ?_ | refine S23 ?_ | refine S28 ?_ | refine S29 ?_ | refine S30 ?_ | refine S31 ?_ | refine S32 ?_ | refine S34 ?_ | refine S35 ?_ | refine S36 ?_ | refine S37 ?_ | refine S38 ?_ | refine S40 ?_ | refine S41 ?_ | refine S49 ?_)
  refine Scall (args := [pli a]) ko ?_
  repeat (first | refine S0 ?_ | refine S1 ?_ | refine S2 ?_ | refine S4 ?_ | refine S5 ?_ | refine S6 ?_ | refine S7 ?_ | refine S8 ?_ | refine S9 ?_ | refine S10 ?_ | refine S11 ?_ | refine S13 ?_ | refine S15 ?_ | refine S16 ?_ | refine S19 ?_ | refine S20 ?_ | refine S22 ?_ | refine S23 ?_ | refine S28 ?_ | refine S29 ?_ | refine S30 ?_ | refine S31 ?_ | refine S32 ?_ | refine S34 ?_ | refine S35 ?_ | refine S36 ?_ | refine S37 ?_ | refine S38 ?_ | refine S40 ?_ | refine S41 ?_ | refine S49 ?_)
  refine Scall (args := [.lst true 1 2 [pli (invL a), pli b]]) kc ?_
  generalize invW a ++ b = u at *
  repeat (first | refine S0 ?_ | refine S1 ?_ | refine S2 ?_ | refine S4 ?_ | refine S5 ?_ | refine S6 ?_ | refine S7 ?_ | refine S8 ?_ | refine S9 ?_ | refine S10 ?_ | refine S11 ?_ | refine S13 ?_ | refine S15 ?_ | refine S16 ?_ | refine S19 ?_ | refine S20 ?_ | refine S22 ?_ | refine S23 ?_ | refine S28 ?_ | refine S29 ?_ | refine S30 ?_ | refine S31 ?_ | refine S32 ?_ | refine S34 ?_ | refine S35 ?_ | refine S36 ?_ | refine S37 ?_ | refine S38 ?_ | refine S40 ?_ | refine S41 ?_ | refine S49 ?_)
  refine CW.loopS (fun x : Nat => 1 ≤ x ∧ x ≤ n + 1) (fun x => [(0, pint n), (7, pli u), (8, pint x)]) (fun _ _ => True) (fun x => n + 1 - x) 1 ⟨by omega, SLx, trivial⟩ ?_
  rintro x t hp ⟨hx1, hx2⟩ _
  first | simp only [updS] | simp only [updL, Nat.reduceAdd]
  by_cases hxn : x ≤ n
  · have hxi : (1 : Int) ≤ (x : Int) ∧ (x : Int) ≤ (n : Int) := by omega
    have ki := image_g hbr (by omega) hxi (by omega) (fun k hk => Nat.le_trans (hB k hk x hxi) (by omega))
    rw [heq x hxi] at ki
    have kq : SC Try.prog 20 [pli [(x : Int)], plt [(x : Int)]] (.sc (.bool true)) := SC.weak (equal_refl [(x : Int)]) rfl
    repeat (first | refine S0 ?_ | refine S1 ?_ | refine S2 ?_ | refine S4 ?_ | refine S5 ?_ | refine S6 ?_ | refine S7 ?_ | refine S8 ?_ | refine S9 ?_ | refine S10 ?_ | refine S11 ?_ | refine S13 ?_ | refine S15 ?_ | refine S16 ?_ | refine S19 ?_ | refine S20 ?_ | refine S22 ?_ | refine S23 ?_ | refine S28 ?_ | refine S29 ?_ | refine S30 ?_ | refine S31 ?_ | refine S32 ?_ | refine S34 ?_ | refine S35 ?_ | refine S36 ?_ | refine S37 ?_ | refine S38 ?_ | refine S40 ?_ | refine S41 ?_ | refine S49 ?_)
    refine Scall (args := [pint x, pli u]) ki ?_
    repeat (first | refine S0 ?_ | refine S1 ?_ | refine S2 ?_ | refine S4 ?_ | refine S5 ?_ | refine S6 ?_ | refine S7 ?_ | refine S8 ?_ | refine S9 ?_ | refine S10 ?_ | refine S11 ?_ | refine S13 ?_ | refine S15 ?_ | refine S16 ?_ | refine S19 ?_ | refine S20 ?_ | refine S22 ?_ | refine S23 ?_ | refine S28 ?_ | refine S29 ?_ | refine S30 ?_ | refine S31 ?_ | refine S32 ?_ | refine S34 ?_ | refine S35 ?_ | refine S36 ?_ | refine S37 ?_ | refine S38 ?_ | refine S40 ?_ | refine S41 ?_ | refine S49 ?_)
    refine Scall (args := [pli [(x : Int)], plt [(x : Int)]]) kq ?_
    repeat (first | refine S0 ?_ | refine S1 ?_ | refine S2 ?_ | refine S4 ?_ | refine S5 ?_ | refine S6 ?_ | refine S7 ?_ | refine S8 ?_ | refine S9 ?_ | refine S10 ?_ | refine S11 ?_ | refine S13 ?_ | refine S15 ?_ | refine S16 ?_ | refine S19 ?_ | refine S20 ?_ | refine S22 ?_ | refine S23 ?_ | refine S28 ?_ | refine S29 ?_ | refine S30 ?_ | refine S31 ?_ | refine S32 ?_ | refine S34 ?_ | refine S35 ?_ | refine S36 ?_ | refine S37 ?_ | refine S38 ?_ | refine S40 ?_ | refine S41 ?_ | refine S49 ?_)
    exact ⟨x + 1, by omega, SLx, trivial, by omega⟩
  · repeat (first | refine S0 ?_ | refine S1 ?_ | refine S2 ?_ | refine S4 ?_ | refine S5 ?_ | refine S6 ?_ | refine S7 ?_ | refine S8 ?_ | refine S9 ?_ | refine S10 ?_ | refine S11 ?_ | refine S13 ?_ | refine S15 ?_ | refine S16 ?_ | refine S19 ?_ | refine S20 ?_ | refine S22 ?_ | refine S23 ?_ | refine S28 ?_ | refine S29 ?_ | refine S30 ?_ | refine S31 ?_ | refine S32 ?_ | refine S34 ?_ | refine S35 ?_ | refine S36 ?_ | refine S37 ?_ | refine S38 ?_ | refine S40 ?_ | refine S41 ?_ | refine S49 ?_)
    exact ⟨.inr rfl, .cl rfl⟩
theorem gFrom_zero {n : Nat} {l : List (List Int)} : ∀ (d i : Nat), (∀ j, i ≤ j → j < i + d → gAt n l j = 0) → gFrom n l d i = 0
  | 0, _, _ => rfl
  | d + 1, i, h => by
    rw [gFrom_ok (h i (Nat.le_refl _) (by omega))]
    exact gFrom_zero d (i + 1) (fun j h1 h2 => h j (by omega) (by omega))
theorem fcs_get {n m j : Nat} {G : Fam} (hj : j < m) : (fcs n m G).getD j [] = tabN n (G j) := by simp [fcs, lst, List.getD, hj]
theorem gF_nrm {n m : Nat} {G : Fam} (hn : 2 ≤ n ∧ n ≤ 6) (h : Nrm n m G) (hm : m ≤ 30) : gF n (fcs n m G) = 0 := by
  unfold gF
  rw [if_neg (by omega), if_neg (by rw [fcs_len]; omega), fcs_len]
  refine gFrom_zero _ _ (fun j _ hj => ?_)
  have hj : j < m := by omega
  unfold gAt
  rw [fcs_get hj]
  rw [if_neg (by rw [tab_fault (h.isP j hj) (by omega)]; simp), if_neg]
  rintro (q | q | q | ⟨q, q2⟩)
  · exact q (tab_len n _)
  · exact h.one j hj (tab_one.1 q)
  · exact h.tw j hj (tab_tw.1 q)
  · rw [fcs_get (show j - 1 < m by omega)] at q2
    have := (tgt_tgF hn.2 (h.isP (j - 1) (by omega))).2 (h.tight (j - 1) (by omega))
    rw [show j - 1 + 1 = j by omega] at this
    rw [Int.toNat_natCast] at q2
    rw [this] at q2
    cases q2
theorem fcs_flat (n m : Nat) (G : Fam) : (fcs n m G).flatMap spell = (lst m G).flatMap (spw n) := by
  unfold fcs
  rw [List.flatMap_map]; rfl
theorem fcs_in64 {n m : Nat} {G : Fam} (hn : n ≤ 6) (h : ∀ i, i < m → IsP (G i) n) : ∀ r ∈ fcs n m G, ∀ x ∈ r, in64 x := fun r hr x hx => by
  unfold fcs lst at hr
  rw [List.map_map] at hr
  obtain ⟨i, hi, rfl⟩ := List.mem_map.1 hr
  have hi := List.mem_range.1 hi
  obtain ⟨j, hj, rfl⟩ := List.mem_map.1 hx
  have := (h i hi).lt j (List.mem_range.1 hj)
  unfold in64; omega
theorem written_f {n m : Nat} {k : Int} {G : Fam} (h : gF n (fcs n m G) = 0) (hk : -30 ≤ k ∧ k ≤ 30) : SC Try.prog 55 [pint n, pint k, ptts (fcs n m G)] (pli (fwd n k (lst m G))) := by
  have key : SC Try.prog 55 [pint n, pint k, plls (fcs n m G)] (pli (fwd n k (lst m G))) := by
    by_cases hk0 : k < 0
    · obtain ⟨q, rfl⟩ : ∃ q : Nat, k = -(q : Int) := ⟨(-k).toNat, by omega⟩
      have := written_neg (N := n) (q := q) h (by omega) (by omega)
      rw [fcs_flat] at this
      have e : fwd n (-(q : Int)) (lst m G) = rp (invL (twN n)) q ++ (lst m G).flatMap (spw n) := by
        unfold fwd dlt twS
        rw [if_pos hk0, show (-(q : Int)).natAbs = q by omega]
      rw [e]; exact this
    · obtain ⟨q, rfl⟩ : ∃ q : Nat, k = (q : Int) := ⟨k.toNat, by omega⟩
      have := written_pos (N := n) (q := q) h (by omega)
      rw [fcs_flat] at this
      have e : fwd n (q : Int) (lst m G) = rp (twN n) q ++ (lst m G).flatMap (spw n) := by
        unfold fwd dlt twS
        rw [if_neg hk0, Int.natAbs_natCast]
      rw [e]; exact this
  refine key.wk rfl (fun i hi => ?_)
  match i, hi with
  | 0, _ => exact .refl _
  | 1, _ => exact .refl _
  | 2, _ => exact .lst (ds := (fcs n m G).map pli) rfl (fun j _ => .refl _)
  | i + 3, hi => exact absurd hi (by simp)
theorem ffactor_f {n m : Nat} {G : Fam} (hn : 2 ≤ n ∧ n ≤ 6) (h : Nrm n m G) (hm : m ≤ 30) : SC Try.prog 54 [pint n, ptts (fcs n m G)] (pint 0) := by
  have key := ffactor_s n (fcs_in64 hn.2 h.isP)
  rw [gF_nrm hn h hm] at key
  refine key.wk rfl (fun i hi => ?_)
  match i, hi with
  | 0, _ => exact .refl _
  | 1, _ => exact .lst (ds := (fcs n m G).map pli) rfl (fun j _ => .refl _)
  | i + 2, hi => exact absurd hi (by simp)
theorem fwd_len {n : Nat} (hn : 2 ≤ n ∧ n ≤ 6) {k : Int} {m : Nat} {G : Fam} (hk : -8 ≤ k ∧ k ≤ 8) (hm : m ≤ 8) (h : ∀ i, i < m → IsP (G i) n) : (fwd n k (lst m G)).length ≤ 1000 := by
  have h15 : ∀ f, IsP f n → (spw n f).length ≤ 15 := fun f hf => by
    have h1 := spw_len hn.2 _ f hf (Nat.le_refl _)
    have h2 := ivc_le f n
    have h4 : n * (n - 1) ≤ 6 * 5 := Nat.mul_le_mul hn.2 (by omega)
    omega
  have hfl : ((lst m G).flatMap (spw n)).length ≤ m * 15 := by
    have := flat_le2 (lst_all (P := fun f => (spw n f).length ≤ 15) (fun i hi => h15 _ (h i hi)))
    rwa [lst_len] at this
  have htl := (tw_len hn).2
  have hdl : (dlt n k).length ≤ 120 := by
    unfold dlt
    rw [rp_len]
    have : (twS n k).length ≤ 15 := by
      unfold twS
      split
      · rw [invL_len']; exact htl
      · exact htl
    have h8 : k.natAbs ≤ 8 := by omega
    exact Nat.mul_le_mul this h8
  unfold fwd
  rw [List.length_append]
  omega
set_option maxHeartbeats 32000000 in
set_option maxRecDepth 100000 in
theorem gforms_s (n : Int) (w : List Int) : SC Try.prog 10 [pint n, pli w] (.sc (.bool true)) := by
  have kf := bfault_s n w
  have ke := formed_s
  by_cases h0 : bF n w = 0
  · rw [h0] at kf
    obtain ⟨N, rfl, hN, hw⟩ := Wd.of h0
    have hN6 := hw.n9
    by_cases hl : 8 < w.length
    · refine SC.go {} tok mixed Try.func10 rfl rfl Try.ntmps10 rfl rfl (by kernel_rfl) ?_
      first | simp only [updS] | simp only [updL, Nat.reduceAdd]
      repeat (first | refine S0 ?_ | refine S1 ?_ | refine S2 ?_ | refine S4 ?_ | refine S5 ?_ | refine S6 ?_ | refine S7 ?_ | refine S8 ?_ | refine S9 ?_ | refine S10 ?_ | refine S11 ?_ | refine S13 ?_ | refine S15 ?_ | refine S16 ?_ | refine S19 ?_ | refine S20 ?_ | refine S22 ?_ | refine S23 ?_ | refine S28 ?_ | refine S29 ?_ | refine S30 ?_ | refine S31 ?_ | refine S32 ?_ | refine S34 ?_ | refine S35 ?_ | refine S36 ?_ | refine S37 ?_ | refine S38 ?_ | refine S40 ?_ | refine S41 ?_ | refine S49 ?_)
      refine Scall (args := [pint N, pli w]) kf ?_
      repeat (first | refine S0 ?_ | refine S1 ?_ | refine S2 ?_ | refine S4 ?_ | refine S5 ?_ | refine S6 ?_ | refine S7 ?_ | refine S8 ?_ | refine S9 ?_ | refine S10 ?_ | refine S11 ?_ | refine S13 ?_ | refine S15 ?_ | refine S16 ?_ | refine S19 ?_ | refine S20 ?_ | refine S22 ?_ | refine S23 ?_ | refine S28 ?_ | refine S29 ?_ | refine S30 ?_ | refine S31 ?_ | refine S32 ?_ | refine S34 ?_ | refine S35 ?_ | refine S36 ?_ | refine S37 ?_ | refine S38 ?_ | refine S40 ?_ | refine S41 ?_ | refine S49 ?_)
      refine Scall (args := []) ke ?_
      repeat (first | refine S0 ?_ | refine S1 ?_ | refine S2 ?_ | refine S4 ?_ | refine S5 ?_ | refine S6 ?_ | refine S7 ?_ | refine S8 ?_ | refine S9 ?_ | refine S10 ?_ | refine S11 ?_ | refine S13 ?_ | refine S15 ?_ | refine S16 ?_ | refine S19 ?_ | refine S20 ?_ | refine S22 ?_ | refine S23 ?_ | refine S28 ?_ | refine S29 ?_ | refine S30 ?_ | refine S31 ?_ | refine S32 ?_ | refine S34 ?_ | refine S35 ?_ | refine S36 ?_ | refine S37 ?_ | refine S38 ?_ | refine S40 ?_ | refine S41 ?_ | refine S49 ?_)
      refine Scall (args := []) ke ?_
      repeat (first | refine S0 ?_ | refine S1 ?_ | refine S2 ?_ | refine S4 ?_ | refine S5 ?_ | refine S6 ?_ | refine S7 ?_ | refine S8 ?_ | refine S9 ?_ | refine S10 ?_ | refine S11 ?_ | refine S13 ?_ | refine S15 ?_ | refine S16 ?_ | refine S19 ?_ | refine S20 ?_ | refine S22 ?_ | refine S23 ?_ | refine S28 ?_ | refine S29 ?_ | refine S30 ?_ | refine S31 ?_ | refine S32 ?_ | refine S34 ?_ | refine S35 ?_ | refine S36 ?_ | refine S37 ?_ | refine S38 ?_ | refine S40 ?_ | refine S41 ?_ | refine S49 ?_)
      exact ⟨.inr rfl, .cl rfl⟩
    · have kform := fun h => nform_ok hw h0 h
      refine SC.go {} tok mixed Try.func10 rfl rfl Try.ntmps10 rfl rfl (by kernel_rfl) ?_
      first | simp only [updS] | simp only [updL, Nat.reduceAdd]
      repeat (first | refine S0 ?_ | refine S1 ?_ | refine S2 ?_ | refine S4 ?_ | refine S5 ?_ | refine S6 ?_ | refine S7 ?_ | refine S8 ?_ | refine S9 ?_ | refine S10 ?_ | refine S11 ?_ | refine S13 ?_ | refine S15 ?_ | refine S16 ?_ | refine S19 ?_ | refine S20 ?_ | refine S22 ?_ | refine S23 ?_ | refine S28 ?_ | refine S29 ?_ | refine S30 ?_ | refine S31 ?_ | refine S32 ?_ | refine S34 ?_ | refine S35 ?_ | refine S36 ?_ | refine S37 ?_ | refine S38 ?_ | refine S40 ?_ | refine S41 ?_ | refine S49 ?_)
      refine Scall (args := [pint N, pli w]) kf ?_
      repeat (first | refine S0 ?_ | refine S1 ?_ | refine S2 ?_ | refine S4 ?_ | refine S5 ?_ | refine S6 ?_ | refine S7 ?_ | refine S8 ?_ | refine S9 ?_ | refine S10 ?_ | refine S11 ?_ | refine S13 ?_ | refine S15 ?_ | refine S16 ?_ | refine S19 ?_ | refine S20 ?_ | refine S22 ?_ | refine S23 ?_ | refine S28 ?_ | refine S29 ?_ | refine S30 ?_ | refine S31 ?_ | refine S32 ?_ | refine S34 ?_ | refine S35 ?_ | refine S36 ?_ | refine S37 ?_ | refine S38 ?_ | refine S40 ?_ | refine S41 ?_ | refine S49 ?_)
      refine Scall (args := []) ke ?_
      repeat (first | refine S0 ?_ | refine S1 ?_ | refine S2 ?_ | refine S4 ?_ | refine S5 ?_ | refine S6 ?_ | refine S7 ?_ | refine S8 ?_ | refine S9 ?_ | refine S10 ?_ | refine S11 ?_ | refine S13 ?_ | refine S15 ?_ | refine S16 ?_ | refine S19 ?_ | refine S20 ?_ | refine S22 ?_ | refine S23 ?_ | refine S28 ?_ | refine S29 ?_ | refine S30 ?_ | refine S31 ?_ | refine S32 ?_ | refine S34 ?_ | refine S35 ?_ | refine S36 ?_ | refine S37 ?_ | refine S38 ?_ | refine S40 ?_ | refine S41 ?_ | refine S49 ?_)
      refine Scalle (args := [pint N, pli w]) (kform H0) ?_
      rintro r h' ⟨k, m, G, hS, rfl⟩
      obtain ⟨q1, q2, q3, q4, q5⟩ := hS.all hN6
      have hm := hS.m_le
      have hfl := fcs_len N m G
      by_cases hn1 : N = 1
      · have hw0 : w = [] := by
          cases w with
          | nil => rfl
          | cons x w => have := q1 x (by simp); omega
        subst hw0
        obtain ⟨rfl, rfl⟩ := st_nil hS
        unfold ptts
        rw [hfl]
        repeat (first | refine S0 ?_ | refine S1 ?_ | refine S2 ?_ | refine S4 ?_ | refine S5 ?_ | refine S6 ?_ | refine S7 ?_ | refine S8 ?_ | refine S9 ?_ | refine S10 ?_ | refine S11 ?_ | refine S13 ?_ | refine S15 ?_ | refine S16 ?_ | refine S19 ?_ | refine S20 ?_ | refine S22 ?_ | refine S23 ?_ | refine S28 ?_ | refine S29 ?_ | refine S30 ?_ | refine S31 ?_ | refine S32 ?_ | refine S34 ?_ | refine S35 ?_ | refine S36 ?_ | refine S37 ?_ | refine S38 ?_ | refine S40 ?_ | refine S41 ?_ | refine S49 ?_)
        exact ⟨.inr rfl, .cl rfl⟩
      · have hn2 : 2 ≤ N ∧ N ≤ 6 := by omega
        have kff := ffactor_f hn2 q2 (by omega)
        have kw := written_f (k := k) (gF_nrm hn2 q2 (by omega)) (by omega)
        have kq := equals_w hN6 q1 (fwd_brd hN6 (lst_all q2.isP)) (by omega) (fwd_len hn2 (by omega) (by omega) q2.isP) q3 (form_pb hn2 hS (by omega))
        generalize fwd N k (lst m G) = W at *
        have hpc : (ptts (fcs N m G)).cl = true := by unfold ptts; simp only [PV.cl, ptts_cl, Bool.and_self]
        generalize ptts (fcs N m G) = pl at *
        repeat (first | refine S0 ?_ | refine S1 ?_ | refine S2 ?_ | refine S4 ?_ | refine S5 ?_ | refine S6 ?_ | refine S7 ?_ | refine S8 ?_ | refine S9 ?_ | refine S10 ?_ | refine S11 ?_ | refine S13 ?_ | refine S15 ?_ | refine S16 ?_ | refine S19 ?_ | refine S20 ?_ | refine S22 ?_ | refine S23 ?_ | refine S28 ?_ | refine S29 ?_ | refine S30 ?_ | refine S31 ?_ | refine S32 ?_ | refine S34 ?_ | refine S35 ?_ | refine S36 ?_ | refine S37 ?_ | refine S38 ?_ | refine S40 ?_ | refine S41 ?_ | refine S49 ?_)
        refine Scall (args := [pint N, pl]) kff ?_ (hc := by simp only [PV.cl.clL, pint_cl, hpc, Bool.and_self])
        repeat (first | refine S0 ?_ | refine S1 ?_ | refine S2 ?_ | refine S4 ?_ | refine S5 ?_ | refine S6 ?_ | refine S7 ?_ | refine S8 ?_ | refine S9 ?_ | refine S10 ?_ | refine S11 ?_ | refine S13 ?_ | refine S15 ?_ | refine S16 ?_ | refine S19 ?_ | refine S20 ?_ | refine S22 ?_ | refine S23 ?_ | refine S28 ?_ | refine S29 ?_ | refine S30 ?_ | refine S31 ?_ | refine S32 ?_ | refine S34 ?_ | refine S35 ?_ | refine S36 ?_ | refine S37 ?_ | refine S38 ?_ | refine S40 ?_ | refine S41 ?_ | refine S49 ?_)
        refine Scall (args := [pint N, pint k, pl]) kw ?_ (hc := by simp only [PV.cl.clL, pint_cl, hpc, Bool.and_self])
        repeat (first | refine S0 ?_ | refine S1 ?_ | refine S2 ?_ | refine S4 ?_ | refine S5 ?_ | refine S6 ?_ | refine S7 ?_ | refine S8 ?_ | refine S9 ?_ | refine S10 ?_ | refine S11 ?_ | refine S13 ?_ | refine S15 ?_ | refine S16 ?_ | refine S19 ?_ | refine S20 ?_ | refine S22 ?_ | refine S23 ?_ | refine S28 ?_ | refine S29 ?_ | refine S30 ?_ | refine S31 ?_ | refine S32 ?_ | refine S34 ?_ | refine S35 ?_ | refine S36 ?_ | refine S37 ?_ | refine S38 ?_ | refine S40 ?_ | refine S41 ?_ | refine S49 ?_)
        refine Scall (args := [pint N, pli w, pli W]) kq ?_
        repeat (first | refine S0 ?_ | refine S1 ?_ | refine S2 ?_ | refine S4 ?_ | refine S5 ?_ | refine S6 ?_ | refine S7 ?_ | refine S8 ?_ | refine S9 ?_ | refine S10 ?_ | refine S11 ?_ | refine S13 ?_ | refine S15 ?_ | refine S16 ?_ | refine S19 ?_ | refine S20 ?_ | refine S22 ?_ | refine S23 ?_ | refine S28 ?_ | refine S29 ?_ | refine S30 ?_ | refine S31 ?_ | refine S32 ?_ | refine S34 ?_ | refine S35 ?_ | refine S36 ?_ | refine S37 ?_ | refine S38 ?_ | refine S40 ?_ | refine S41 ?_ | refine S49 ?_)
        exact ⟨.inr rfl, .cl rfl⟩
  · have kform := fun h => nform_bad h0 h
    refine SC.go {} tok mixed Try.func10 rfl rfl Try.ntmps10 rfl rfl (by kernel_rfl) ?_
    first | simp only [updS] | simp only [updL, Nat.reduceAdd]
    repeat (first | refine S0 ?_ | refine S1 ?_ | refine S2 ?_ | refine S4 ?_ | refine S5 ?_ | refine S6 ?_ | refine S7 ?_ | refine S8 ?_ | refine S9 ?_ | refine S10 ?_ | refine S11 ?_ | refine S13 ?_ | refine S15 ?_ | refine S16 ?_ | refine S19 ?_ | refine S20 ?_ | refine S22 ?_ | refine S23 ?_ | refine S28 ?_ | refine S29 ?_ | refine S30 ?_ | refine S31 ?_ | refine S32 ?_ | refine S34 ?_ | refine S35 ?_ | refine S36 ?_ | refine S37 ?_ | refine S38 ?_ | refine S40 ?_ | refine S41 ?_ | refine S49 ?_)
    refine Scall (args := [pint n, pli w]) kf ?_
    repeat (first | refine S0 ?_ | refine S1 ?_ | refine S2 ?_ | refine S4 ?_ | refine S5 ?_ | refine S6 ?_ | refine S7 ?_ | refine S8 ?_ | refine S9 ?_ | refine S10 ?_ | refine S11 ?_ | refine S13 ?_ | refine S15 ?_ | refine S16 ?_ | refine S19 ?_ | refine S20 ?_ | refine S22 ?_ | refine S23 ?_ | refine S28 ?_ | refine S29 ?_ | refine S30 ?_ | refine S31 ?_ | refine S32 ?_ | refine S34 ?_ | refine S35 ?_ | refine S36 ?_ | refine S37 ?_ | refine S38 ?_ | refine S40 ?_ | refine S41 ?_ | refine S49 ?_)
    refine Scall (args := []) ke ?_
    repeat (first | refine S0 ?_ | refine S1 ?_ | refine S2 ?_ | refine S4 ?_ | refine S5 ?_ | refine S6 ?_ | refine S7 ?_ | refine S8 ?_ | refine S9 ?_ | refine S10 ?_ | refine S11 ?_ | refine S13 ?_ | refine S15 ?_ | refine S16 ?_ | refine S19 ?_ | refine S20 ?_ | refine S22 ?_ | refine S23 ?_ | refine S28 ?_ | refine S29 ?_ | refine S30 ?_ | refine S31 ?_ | refine S32 ?_ | refine S34 ?_ | refine S35 ?_ | refine S36 ?_ | refine S37 ?_ | refine S38 ?_ | refine S40 ?_ | refine S41 ?_ | refine S49 ?_)
    refine Scalle (args := [pint n, pli w]) (kform H0) ?_
    rintro r h' ⟨rfl, rfl⟩
    repeat (first | refine S0 ?_ | refine S1 ?_ | refine S2 ?_ | refine S4 ?_ | refine S5 ?_ | refine S6 ?_ | refine S7 ?_ | refine S8 ?_ | refine S9 ?_ | refine S10 ?_ | refine S11 ?_ | refine S13 ?_ | refine S15 ?_ | refine S16 ?_ | refine S19 ?_ | refine S20 ?_ | refine S22 ?_ | refine S23 ?_ | refine S28 ?_ | refine S29 ?_ | refine S30 ?_ | refine S31 ?_ | refine S32 ?_ | refine S34 ?_ | refine S35 ?_ | refine S36 ?_ | refine S37 ?_ | refine S38 ?_ | refine S40 ?_ | refine S41 ?_ | refine S49 ?_)
    exact ⟨.inr rfl, .cl rfl⟩
end Go.Proofs.Ytgjfpmjllpgadaa
