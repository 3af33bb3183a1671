/- temperleylieb.Close: a matching that is closed. No condition of its own. -/
import Derived.Test.YtpmdhkiolgpiaaaGMatchingProductsBR
set_option linter.unusedVariables false
set_option linter.unusedSimpArgs false
namespace Go.Proofs.Ytpmdhkiolgpiaaa
open Go.RowKit

theorem gCls_le (n : Nat) (d : Nat → Nat) : ∀ k v, (gCls n d k v).length ≤ 2 * k
  | 0, v => by show ([] : List Nat).length ≤ _; simp
  | k + 1, v => by
    have ih := gCls_le n d k v
    show ((if k < n then addL (if k < d k then addL (gCls n d k) k (d k) else gCls n d k) k (n + k) else (if k < d k then addL (gCls n d k) k (d k) else gCls n d k)) v).length ≤ _
    have h1 : ((if k < d k then addL (gCls n d k) k (d k) else gCls n d k) v).length ≤ 2 * k + 1 := by
      split
      · have := addL_len (gCls n d k) k (d k) v; omega
      · omega
    generalize (if k < d k then addL (gCls n d k) k (d k) else gCls n d k) = g1 at *
    split
    · have := addL_len g1 k (n + k) v; omega
    · omega
set_option maxHeartbeats 40000000 in
set_option maxRecDepth 100000 in
theorem close_s {n : Nat} {d : Nat → Nat} {c : Nat} (hn : 1 ≤ n ∧ n ≤ 9) (hd : Mt n d) (hfix : ∀ c', Lp (2 * n) 0 (gCls n d (2 * n)) c' → c' = c) :
    SC Try.prog 22 [pint n, pli (tabN (2 * n) d)] (pint c) := by
  have kN := newGraph_e (m := 2 * n) (by omega) H0
  refine SC.go {} tok mixed Try.func22 rfl rfl Try.ntmps22 rfl rfl (by kernel_rfl) ?_
  have l1 : (tabN (2 * n) d).length = 2 * n := tab_len _ _
  first | simp only [updS] | simp only [updL, Nat.reduceAdd]
  repeat (first | refine S0 ?_ | refine S1 ?_ | refine S2 ?_ | refine S4 ?_ | refine S5 ?_ | refine S6 ?_ | refine S7 ?_ | refine S8 ?_ | refine S10 ?_ | refine S11 ?_ | refine S13 ?_ | refine S15 ?_ | refine S16 ?_ | refine S19 ?_ | refine S20 ?_ | refine S21 ?_ | refine S22 ?_ | refine S23 ?_ | refine S25 ?_ | refine S26 ?_ | refine S51 ?_)
  rw [show 2 * (n : Int) = ((2 * n : Nat) : Int) by omega]
  refine Scalle (args := [pint (2 * n : Nat)]) kN ?_
  rintro r X ⟨rfl, B1, B2, hnx, hFx⟩
  iterate 3 (first | refine S0 ?_ | refine S1 ?_ | refine S2 ?_ | refine S4 ?_ | refine S5 ?_ | refine S6 ?_ | refine S7 ?_ | refine S8 ?_ | refine S10 ?_ | refine S11 ?_ | refine S13 ?_ | refine S15 ?_ | refine S16 ?_ | refine S19 ?_ | refine S20 ?_ | refine S21 ?_ | refine S22 ?_ | refine S23 ?_ | refine S25 ?_ | refine S26 ?_ | refine S51 ?_)
  obtain ⟨T, hT⟩ : ∃ T, T = 2 * H0.next := ⟨_, rfl⟩
  obtain ⟨tf, htf⟩ : ∃ tf, tf = 2 * (H0.next + 1) + 1 := ⟨_, rfl⟩
  rw [← htf] at B1 ⊢
  rw [← hT] at B1 B2
  have ho : tf % 2 = 1 := by omega
  have hev : T % 2 = 0 := by omega
  have hTl : T < 2 * X.next := by omega
  have htl : tf < 2 * X.next := by omega
  refine ownAll (m := 2 * n) (s' := 0) (T := T) (h0 := X) hTl hev ?_ (2 * n) 0 (fun _ => 0) X (by omega) (by rw [ocs_zero]; exact B2) (fun v hv => absurd hv (Nat.not_lt_zero _)) (fun x y hv => absurd hv (Nat.not_lt_zero _)) (fun v hv => absurd hv (Nat.not_lt_zero _)) (Fr.refl _ _)
  intro tk h1 H hge hF1
  have hv : h1.blk tf = some [.ref T 0 1 (2 * n)] := hF1.get htl (by rw [List.mem_singleton]; omega) B1
  have hl1 : tf < 2 * h1.next := by have := hF1.next; omega
  clear hF1 hge B1 B2 hnx hT htf hTl htl kN
  repeat (first | refine S0 ?_ | refine S1 ?_ | refine S2 ?_ | refine S4 ?_ | refine S5 ?_ | refine S6 ?_ | refine S7 ?_ | refine S8 ?_ | refine S10 ?_ | refine S11 ?_ | refine S13 ?_ | refine S15 ?_ | refine S16 ?_ | refine S19 ?_ | refine S20 ?_ | refine S21 ?_ | refine S22 ?_ | refine S23 ?_ | refine S25 ?_ | refine S26 ?_ | refine S51 ?_)
  refine CW.loopS (fun i : Nat × (Nat → Nat) × (Nat → Nat) => i.1 ≤ 2 * n) (fun i => [(0, pint n), (5, .ptr tf 0), (11, pli (tabN (2 * n) d)), (12, pint (tabN (2 * n) d).length), (13, pint i.1)])
    (fun i hp => GH (2 * n) T i.2.1 i.2.2 (gCls n d i.1) hp ∧ hp.blk tf = some [.ref T 0 1 (2 * n)] ∧ tf < 2 * hp.next) (fun i => 2 * n - i.1) (0, tk, fun _ => 0) ⟨Nat.zero_le _, SLx, H, hv, hl1⟩ ?_
  clear H hv hl1 h1 hFx X
  clear tk
  rintro ⟨k, tk, off⟩ t hp hk ⟨H, hv, hl⟩
  simp only at hk H
  first | simp only [updS] | simp only [updL, Nat.reduceAdd]
  by_cases hk2 : k < 2 * n
  · have ga : (tabN (2 * n) d).getD k 0 = (d k : Int) := tabN_get hk2
    have ha1 := hd.lt k hk2
    have ha2 := hd.ne k hk2
    have hle := gCls_le n d k
    have e1 : gCls n d (k + 1) = if k < n then addL (if k < d k then addL (gCls n d k) k (d k) else gCls n d k) k (n + k) else (if k < d k then addL (gCls n d k) k (d k) else gCls n d k) := rfl
    by_cases c1 : k < d k
    · have kl1 := line_e (n := 2 * n) (a := k) (b := d k) (by omega) (by omega) (by omega) (by omega) (by have := hle k; omega) (by have := hle (d k); omega) _ hv H ho hl
      repeat (first | refine S0 ?_ | refine S1 ?_ | refine S2 ?_ | refine S4 ?_ | refine S5 ?_ | refine S6 ?_ | refine S7 ?_ | refine S8 ?_ | refine S10 ?_ | refine S11 ?_ | refine S13 ?_ | refine S15 ?_ | refine S16 ?_ | refine S19 ?_ | refine S20 ?_ | refine S21 ?_ | refine S22 ?_ | refine S23 ?_ | refine S25 ?_ | refine S26 ?_ | refine S51 ?_)
      rw [ga]
      refine Scalle (args := [.ptr tf 0, pint k, pint (d k)]) kl1 ?_
      clear H hv hl
      rintro r h1 ⟨tk1, off1, hv, H, hl⟩
      have hlg : ∀ v, (addL (gCls n d k) k (d k) v).length ≤ 2 * k + 1 := fun v => by have h3 := addL_len (gCls n d k) k (d k) v; have h4 := hle v; omega
      by_cases c2 : k < n
      · have kl2 := line_e (n := 2 * n) (a := k) (b := n + k) (by omega) (by omega) (by omega) (by omega) (by have := hlg k; omega) (by have := hlg (n + k); omega) _ hv H ho hl
        rw [show ((n + k : Nat) : Int) = (n : Int) + (k : Int) from rfl] at kl2
        repeat (first | refine S0 ?_ | refine S1 ?_ | refine S2 ?_ | refine S4 ?_ | refine S5 ?_ | refine S6 ?_ | refine S7 ?_ | refine S8 ?_ | refine S10 ?_ | refine S11 ?_ | refine S13 ?_ | refine S15 ?_ | refine S16 ?_ | refine S19 ?_ | refine S20 ?_ | refine S21 ?_ | refine S22 ?_ | refine S23 ?_ | refine S25 ?_ | refine S26 ?_ | refine S51 ?_)
        refine Scalle (args := [.ptr tf 0, pint k, pint ((n : Int) + (k : Int))]) kl2 ?_
        rintro r h2 ⟨tk2, off2, hv2, H2, hl2⟩
        repeat (first | refine S0 ?_ | refine S1 ?_ | refine S2 ?_ | refine S4 ?_ | refine S5 ?_ | refine S6 ?_ | refine S7 ?_ | refine S8 ?_ | refine S10 ?_ | refine S11 ?_ | refine S13 ?_ | refine S15 ?_ | refine S16 ?_ | refine S19 ?_ | refine S20 ?_ | refine S21 ?_ | refine S22 ?_ | refine S23 ?_ | refine S25 ?_ | refine S26 ?_ | refine S51 ?_)
        exact ⟨(k + 1, tk2, off2), by simp only; omega, SLx, ⟨by show GH _ _ _ _ (gCls n d (k + 1)) _; rw [e1, if_pos c2, if_pos c1]; exact H2, hv2, hl2⟩, by simp only; omega⟩
      · repeat (first | refine S0 ?_ | refine S1 ?_ | refine S2 ?_ | refine S4 ?_ | refine S5 ?_ | refine S6 ?_ | refine S7 ?_ | refine S8 ?_ | refine S10 ?_ | refine S11 ?_ | refine S13 ?_ | refine S15 ?_ | refine S16 ?_ | refine S19 ?_ | refine S20 ?_ | refine S21 ?_ | refine S22 ?_ | refine S23 ?_ | refine S25 ?_ | refine S26 ?_ | refine S51 ?_)
        exact ⟨(k + 1, _, _), by simp only; omega, SLx, ⟨by show GH _ _ _ _ (gCls n d (k + 1)) _; rw [e1, if_neg c2, if_pos c1]; exact H, hv, hl⟩, by simp only; omega⟩
    · by_cases c2 : k < n
      · have kl2 := line_e (n := 2 * n) (a := k) (b := n + k) (by omega) (by omega) (by omega) (by omega) (by have := hle k; omega) (by have := hle (n + k); omega) _ hv H ho hl
        rw [show ((n + k : Nat) : Int) = (n : Int) + (k : Int) from rfl] at kl2
        repeat (first | refine S0 ?_ | refine S1 ?_ | refine S2 ?_ | refine S4 ?_ | refine S5 ?_ | refine S6 ?_ | refine S7 ?_ | refine S8 ?_ | refine S10 ?_ | refine S11 ?_ | refine S13 ?_ | refine S15 ?_ | refine S16 ?_ | refine S19 ?_ | refine S20 ?_ | refine S21 ?_ | refine S22 ?_ | refine S23 ?_ | refine S25 ?_ | refine S26 ?_ | refine S51 ?_)
        refine Scalle (args := [.ptr tf 0, pint k, pint ((n : Int) + (k : Int))]) kl2 ?_
        rintro r h2 ⟨tk2, off2, hv2, H2, hl2⟩
        repeat (first | refine S0 ?_ | refine S1 ?_ | refine S2 ?_ | refine S4 ?_ | refine S5 ?_ | refine S6 ?_ | refine S7 ?_ | refine S8 ?_ | refine S10 ?_ | refine S11 ?_ | refine S13 ?_ | refine S15 ?_ | refine S16 ?_ | refine S19 ?_ | refine S20 ?_ | refine S21 ?_ | refine S22 ?_ | refine S23 ?_ | refine S25 ?_ | refine S26 ?_ | refine S51 ?_)
        exact ⟨(k + 1, tk2, off2), by simp only; omega, SLx, ⟨by show GH _ _ _ _ (gCls n d (k + 1)) _; rw [e1, if_pos c2, if_neg c1]; exact H2, hv2, hl2⟩, by simp only; omega⟩
      · repeat (first | refine S0 ?_ | refine S1 ?_ | refine S2 ?_ | refine S4 ?_ | refine S5 ?_ | refine S6 ?_ | refine S7 ?_ | refine S8 ?_ | refine S10 ?_ | refine S11 ?_ | refine S13 ?_ | refine S15 ?_ | refine S16 ?_ | refine S19 ?_ | refine S20 ?_ | refine S21 ?_ | refine S22 ?_ | refine S23 ?_ | refine S25 ?_ | refine S26 ?_ | refine S51 ?_)
        exact ⟨(k + 1, _, _), by simp only; omega, SLx, ⟨by show GH _ _ _ _ (gCls n d (k + 1)) _; rw [e1, if_neg c2, if_neg c1]; exact H, hv, hl⟩, by simp only; omega⟩
  · obtain rfl : k = 2 * n := by omega
    obtain ⟨hg, hlen⟩ := gCls_gr hd
    have hd2 : ∀ v, (gCls n d (2 * n) v).length ≤ 100 := fun v => by rw [hlen]; split <;> omega
    have kl := loops_e (by omega) hg hd2 hp hv H ho hl
    repeat (first | refine S0 ?_ | refine S1 ?_ | refine S2 ?_ | refine S4 ?_ | refine S5 ?_ | refine S6 ?_ | refine S7 ?_ | refine S8 ?_ | refine S10 ?_ | refine S11 ?_ | refine S13 ?_ | refine S15 ?_ | refine S16 ?_ | refine S19 ?_ | refine S20 ?_ | refine S21 ?_ | refine S22 ?_ | refine S23 ?_ | refine S25 ?_ | refine S26 ?_ | refine S51 ?_)
    refine Scalle (args := [.ptr tf 0]) kl ?_
    rintro r h' ⟨c', rfl, hL, F1⟩
    obtain rfl := hfix c' hL
    repeat (first | refine S0 ?_ | refine S1 ?_ | refine S2 ?_ | refine S4 ?_ | refine S5 ?_ | refine S6 ?_ | refine S7 ?_ | refine S8 ?_ | refine S10 ?_ | refine S11 ?_ | refine S13 ?_ | refine S15 ?_ | refine S16 ?_ | refine S19 ?_ | refine S20 ?_ | refine S21 ?_ | refine S22 ?_ | refine S23 ?_ | refine S25 ?_ | refine S26 ?_ | refine S51 ?_)
    exact ⟨.inr rfl, .cl rfl⟩
end Go.Proofs.Ytpmdhkiolgpiaaa
