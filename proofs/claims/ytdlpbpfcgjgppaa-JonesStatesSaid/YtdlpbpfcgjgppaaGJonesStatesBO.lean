/- Facts and contracts that the claim uses. No condition of its own. -/
import Derived.Test.YtdlpbpfcgjgppaaGJonesStatesBN
import Derived.Test.YtdlpbpfcgjgppaaGJonesStatesBA
set_option linter.unusedVariables false
set_option linter.unusedSimpArgs false
namespace Go.Proofs.Ytdlpbpfcgjgppaa
open Go.RowKit
theorem addL_len (g : Lns) (a b v : Nat) : (addL g a b v).length ≤ (g v).length + 1 := by
  unfold addL
  by_cases c1 : v = a
  · subst c1; rw [if_pos rfl]; simp
  · rw [if_neg c1]
    by_cases c2 : v = b
    · subst c2; rw [if_pos rfl]; simp
    · rw [if_neg c2]; omega
theorem gPut_le (n : Nat) (a b : Nat → Nat) : ∀ k v, (gPut n a b k v).length ≤ 2 * k
  | 0, v => by show ([] : List Nat).length ≤ _; simp
  | k + 1, v => by
    have ih := gPut_le n a b k v
    show ((if k < b k then addL (if k < a k then addL (gPut n a b k) k (a k) else gPut n a b k) (n + k) (n + b k) else (if k < a k then addL (gPut n a b k) k (a k) else gPut n a b k)) v).length ≤ _
    have h1 : ((if k < a k then addL (gPut n a b k) k (a k) else gPut n a b k) v).length ≤ 2 * k + 1 := by
      split
      · have := addL_len (gPut n a b k) k (a k) v; omega
      · omega
    generalize (if k < a k then addL (gPut n a b k) k (a k) else gPut n a b k) = g1 at *
    split
    · have := addL_len g1 (n + k) (n + b k) v; omega
    · omega
set_option maxHeartbeats 4000000 in
set_option maxRecDepth 100000 in
theorem putPt_s {n p : Nat} (hn : n ≤ 1000) (hp : p ≤ 10000) : SC Try.prog 75 [pint p, .lptr [pint n]] (pint (ptN n p : Nat)) := by
  refine SC.go {} tok mixed Try.func75 rfl rfl Try.ntmps75 rfl rfl (by kernel_rfl) ?_
  first | simp only [updS] | simp only [updL, Nat.reduceAdd]
  by_cases c : n ≤ p
  · repeat (first | refine S0 ?_ | refine S1 ?_ | refine S2 ?_ | refine S5 ?_ | refine S7 ?_ | refine S8 ?_ | refine S9 ?_ | refine S15 ?_ | refine S16 ?_ | refine S19 ?_ | refine S20 ?_ | refine S26 ?_ | refine S32 ?_ | refine S33 ?_)
    have e : ((p : Int) - n) = ((p - n : Nat) : Int) := by omega
    refine ⟨.inr rfl, ?_⟩
    unfold ptN
    rw [if_pos c, ← e]
    exact .cl rfl
  · repeat (first | refine S0 ?_ | refine S1 ?_ | refine S2 ?_ | refine S5 ?_ | refine S7 ?_ | refine S8 ?_ | refine S9 ?_ | refine S15 ?_ | refine S16 ?_ | refine S19 ?_ | refine S20 ?_ | refine S26 ?_ | refine S32 ?_ | refine S33 ?_)
    refine ⟨.inr rfl, ?_⟩
    unfold ptN
    rw [if_neg c]
    exact .cl rfl
theorem tabO_set {m k v : Nat} {F : Nat → Nat} : (tabN m F).set k (v : Int) = tabN m (ov2 F k v) := by
  apply List.ext_getElem (by simp [tabN])
  intro j g1 g2
  rw [List.getElem_set]
  simp only [tabN, List.getElem_map, List.getElem_range, ov2]
  by_cases e : k = j
  · subst e; rw [if_pos rfl, if_pos rfl]
  · rw [if_neg e, if_neg (fun h => e h.symm)]
theorem tabO_zero (m : Nat) : List.replicate m (0 : Int) = tabN m (fun _ => 0) := by
  apply List.ext_getElem (by simp [tabN])
  intro j g1 g2
  simp [tabN]
theorem ptN_lt {n p : Nat} (hn : 1 ≤ n) (hp : p < 3 * n) : ptN n p < 2 * n := by unfold ptN; split <;> omega
theorem Fz.pairP {h : HP} {a b a' b' : PV} (h1 : Fz h a a') (h2 : Fz h b b') : Fz h (.tup [a, b]) (.tup [a', b']) :=
  .tup rfl (fun i hi => by
    match i, hi with
    | 0, _ => exact h1
    | 1, _ => exact h2
    | i + 2, h => simp at h; omega)
set_option maxHeartbeats 40000000 in
set_option maxRecDepth 100000 in
theorem put_s {n : Nat} {a b o : Nat → Nat} {c : Nat} (hn : 1 ≤ n ∧ n ≤ 9) (ha : Mt n a) (hb : Mt n b) (hfix : ∀ g' o' c', Ph n 0 (gPut n a b (2 * n)) (fun _ => 0) g' o' → Lp (3 * n) 0 g' c' → (∀ i, i < 2 * n → o' i = o i) ∧ c' = c) :
    SC Try.prog 52 [pint n, pli (tabN (2 * n) a), pli (tabN (2 * n) b)] (.tup [pli (tabN (2 * n) o), pint c]) := by
  have kN := newGraph_e (m := 3 * n) (by omega) H0
  refine SC.go {} tok mixed Try.func52 rfl rfl Try.ntmps52 rfl rfl (by kernel_rfl) ?_
  first | simp only [updS] | simp only [updL, Nat.reduceAdd]
  repeat (first | refine S0 ?_ | refine S1 ?_ | refine S2 ?_ | refine S4 ?_ | refine S5 ?_ | refine S6 ?_ | refine S7 ?_ | refine S8 ?_ | refine S10 ?_ | refine S11 ?_ | refine S13 ?_ | refine S15 ?_ | refine S16 ?_ | refine S19 ?_ | refine S20 ?_ | refine S21 ?_ | refine S22 ?_ | refine S24 ?_ | refine S25 ?_ | refine S26 ?_ | refine S27 ?_ | refine S30 ?_ | refine S32 ?_ | refine S37 ?_ | refine S38 ?_ | refine S40 ?_ | refine S41 ?_ | refine S45 ?_ | refine S46 ?_ | refine S51 ?_ | refine S56 ?_ | refine S65 ?_ | refine S67 ?_ | refine S71 ?_ | refine S73 ?_)
  rw [show 3 * (n : Int) = ((3 * n : Nat) : Int) by omega]
  refine Scalle (args := [pint (3 * n : Nat)]) kN ?_
  rintro r X ⟨rfl, B1, B2, hnx, hFx⟩
  iterate 3 (first | refine S0 ?_ | refine S1 ?_ | refine S2 ?_ | refine S4 ?_ | refine S5 ?_ | refine S6 ?_ | refine S7 ?_ | refine S8 ?_ | refine S10 ?_ | refine S11 ?_ | refine S13 ?_ | refine S15 ?_ | refine S16 ?_ | refine S19 ?_ | refine S20 ?_ | refine S21 ?_ | refine S22 ?_ | refine S24 ?_ | refine S25 ?_ | refine S26 ?_ | refine S27 ?_ | refine S30 ?_ | refine S32 ?_ | refine S37 ?_ | refine S38 ?_ | refine S40 ?_ | refine S41 ?_ | refine S45 ?_ | refine S46 ?_ | refine S51 ?_ | refine S56 ?_ | refine S65 ?_ | refine S67 ?_ | refine S71 ?_ | refine S73 ?_)
  obtain ⟨T, hT⟩ : ∃ T, T = 2 * H0.next := ⟨_, rfl⟩
  obtain ⟨tf, htf⟩ : ∃ tf, tf = 2 * (H0.next + 1) + 1 := ⟨_, rfl⟩
  rw [← htf] at B1 ⊢
  rw [← hT] at B1 B2
  have ho : tf % 2 = 1 := by omega
  have hev : T % 2 = 0 := by omega
  have hTl : T < 2 * X.next := by omega
  have htl : tf < 2 * X.next := by omega
  refine ownAll (m := 3 * n) (s' := 0) (T := T) (h0 := X) hTl hev ?_ (3 * n) 0 (fun _ => 0) X (by omega) (by rw [ocs_zero]; exact B2) (fun v hv => absurd hv (Nat.not_lt_zero _)) (fun x y hv => absurd hv (Nat.not_lt_zero _)) (fun v hv => absurd hv (Nat.not_lt_zero _)) (Fr.refl _ _)
  intro tk h1 H hge hF1
  have hv : h1.blk tf = some [.ref T 0 1 (3 * n)] := hF1.get htl (by rw [List.mem_singleton]; omega) B1
  have hl1 : tf < 2 * h1.next := by have := hF1.next; omega
  clear hF1 hge B1 B2 hnx hT htf hTl htl kN
  repeat (first | refine S0 ?_ | refine S1 ?_ | refine S2 ?_ | refine S4 ?_ | refine S5 ?_ | refine S6 ?_ | refine S7 ?_ | refine S8 ?_ | refine S10 ?_ | refine S11 ?_ | refine S13 ?_ | refine S15 ?_ | refine S16 ?_ | refine S19 ?_ | refine S20 ?_ | refine S21 ?_ | refine S22 ?_ | refine S24 ?_ | refine S25 ?_ | refine S26 ?_ | refine S27 ?_ | refine S30 ?_ | refine S32 ?_ | refine S37 ?_ | refine S38 ?_ | refine S40 ?_ | refine S41 ?_ | refine S45 ?_ | refine S46 ?_ | refine S51 ?_ | refine S56 ?_ | refine S65 ?_ | refine S67 ?_ | refine S71 ?_ | refine S73 ?_)
  refine CW.loopS (fun i : Nat × (Nat → Nat) × (Nat → Nat) => i.1 ≤ 2 * n) (fun i => [(1, pli (tabN (2 * n) a)), (2, pli (tabN (2 * n) b)), (3, .lptr [pint n]), (8, .ptr tf 0), (18, pint (2 * n : Nat)), (19, pint i.1)])
    (fun i hp => GH (3 * n) T i.2.1 i.2.2 (gPut n a b i.1) hp ∧ hp.blk tf = some [.ref T 0 1 (3 * n)] ∧ tf < 2 * hp.next) (fun i => 2 * n - i.1) (0, tk, fun _ => 0) ⟨Nat.zero_le _, SLx, H, hv, hl1⟩ ?_
  clear H hv hl1 h1 hFx X
  clear tk
  rintro ⟨k, tk, off⟩ t hp hk ⟨H, hv, hl⟩
  simp only at hk H
  first | simp only [updS] | simp only [updL, Nat.reduceAdd]
  by_cases hk2 : k < 2 * n
  · have l1 : (tabN (2 * n) a).length = 2 * n := tab_len _ _
    have l2 : (tabN (2 * n) b).length = 2 * n := tab_len _ _
    have ga : (tabN (2 * n) a).getD k 0 = (a k : Int) := tabN_get hk2
    have gb : (tabN (2 * n) b).getD k 0 = (b k : Int) := tabN_get hk2
    have ha1 := ha.lt k hk2
    have ha2 := ha.ne k hk2
    have hb1 := hb.lt k hk2
    have hb2 := hb.ne k hk2
    have hle := gPut_le n a b k
    have e1 : gPut n a b (k + 1) = if k < b k then addL (if k < a k then addL (gPut n a b k) k (a k) else gPut n a b k) (n + k) (n + b k) else (if k < a k then addL (gPut n a b k) k (a k) else gPut n a b k) := rfl
    by_cases c1 : k < a k
    · have kl1 := line_e (n := 3 * n) (a := k) (b := a k) (by omega) (by omega) (by omega) (by omega) (by have := hle k; omega) (by have := hle (a k); omega) _ hv H ho hl
      repeat (first | refine S0 ?_ | refine S1 ?_ | refine S2 ?_ | refine S4 ?_ | refine S5 ?_ | refine S6 ?_ | refine S7 ?_ | refine S8 ?_ | refine S10 ?_ | refine S11 ?_ | refine S13 ?_ | refine S15 ?_ | refine S16 ?_ | refine S19 ?_ | refine S20 ?_ | refine S21 ?_ | refine S22 ?_ | refine S24 ?_ | refine S25 ?_ | refine S26 ?_ | refine S27 ?_ | refine S30 ?_ | refine S32 ?_ | refine S37 ?_ | refine S38 ?_ | refine S40 ?_ | refine S41 ?_ | refine S45 ?_ | refine S46 ?_ | refine S51 ?_ | refine S56 ?_ | refine S65 ?_ | refine S67 ?_ | refine S71 ?_ | refine S73 ?_)
      rw [ga]
      refine Scalle (args := [.ptr tf 0, pint k, pint (a k)]) kl1 ?_
      clear H hv hl
      rintro r h1 ⟨tk1, off1, hv, H, hl⟩
      have hlg : ∀ v, (addL (gPut n a b k) k (a k) v).length ≤ 2 * k + 1 := fun v => by have h3 := addL_len (gPut n a b k) k (a k) v; have h4 := hle v; omega
      by_cases c2 : k < b k
      · have kl2 := line_e (n := 3 * n) (a := n + k) (b := n + b k) (by omega) (by omega) (by omega) (by omega) (by have := hlg (n + k); omega) (by have := hlg (n + b k); omega) _ hv H ho hl
        rw [show ((n + k : Nat) : Int) = (n : Int) + (k : Int) from rfl, show ((n + b k : Nat) : Int) = (n : Int) + (b k : Int) from rfl] at kl2
        iterate 13 (first | refine S0 ?_ | refine S1 ?_ | refine S2 ?_ | refine S4 ?_ | refine S5 ?_ | refine S6 ?_ | refine S7 ?_ | refine S8 ?_ | refine S10 ?_ | refine S11 ?_ | refine S13 ?_ | refine S15 ?_ | refine S16 ?_ | refine S19 ?_ | refine S20 ?_ | refine S21 ?_ | refine S22 ?_ | refine S24 ?_ | refine S25 ?_ | refine S26 ?_ | refine S27 ?_ | refine S30 ?_ | refine S32 ?_ | refine S37 ?_ | refine S38 ?_ | refine S40 ?_ | refine S41 ?_ | refine S45 ?_ | refine S46 ?_ | refine S51 ?_ | refine S56 ?_ | refine S65 ?_ | refine S67 ?_ | refine S71 ?_ | refine S73 ?_)
        refine CW.regionDM 10 (by kernel_rfl) (by rfl) (by rfl) (by intro _ h; cases h) ?_
        repeat (first | refine S0 ?_ | refine S1 ?_ | refine S2 ?_ | refine S4 ?_ | refine S5 ?_ | refine S6 ?_ | refine S7 ?_ | refine S8 ?_ | refine S10 ?_ | refine S11 ?_ | refine S13 ?_ | refine S15 ?_ | refine S16 ?_ | refine S19 ?_ | refine S20 ?_ | refine S21 ?_ | refine S22 ?_ | refine S24 ?_ | refine S25 ?_ | refine S26 ?_ | refine S27 ?_ | refine S30 ?_ | refine S32 ?_ | refine S37 ?_ | refine S38 ?_ | refine S40 ?_ | refine S41 ?_ | refine S45 ?_ | refine S46 ?_ | refine S51 ?_ | refine S56 ?_ | refine S65 ?_ | refine S67 ?_ | refine S71 ?_ | refine S73 ?_)
        rw [gb]
        refine LW.ope (d := 51) rfl (by omega) (fun _ => OpE.call rfl (kl2.mono ?_))
        rintro r h2 ⟨tk2, off2, hv2, H2, hl2⟩
        repeat (first | refine S0 ?_ | refine S1 ?_ | refine S2 ?_ | refine S4 ?_ | refine S5 ?_ | refine S6 ?_ | refine S7 ?_ | refine S8 ?_ | refine S10 ?_ | refine S11 ?_ | refine S13 ?_ | refine S15 ?_ | refine S16 ?_ | refine S19 ?_ | refine S20 ?_ | refine S21 ?_ | refine S22 ?_ | refine S24 ?_ | refine S25 ?_ | refine S26 ?_ | refine S27 ?_ | refine S30 ?_ | refine S32 ?_ | refine S37 ?_ | refine S38 ?_ | refine S40 ?_ | refine S41 ?_ | refine S45 ?_ | refine S46 ?_ | refine S51 ?_ | refine S56 ?_ | refine S65 ?_ | refine S67 ?_ | refine S71 ?_ | refine S73 ?_)
        exact ⟨(k + 1, tk2, off2), by simp only; omega, SLx, ⟨by show GH _ _ _ _ (gPut n a b (k + 1)) _; rw [e1, if_pos c2, if_pos c1]; exact H2, hv2, hl2⟩, by simp only; omega⟩
      · repeat (first | refine S0 ?_ | refine S1 ?_ | refine S2 ?_ | refine S4 ?_ | refine S5 ?_ | refine S6 ?_ | refine S7 ?_ | refine S8 ?_ | refine S10 ?_ | refine S11 ?_ | refine S13 ?_ | refine S15 ?_ | refine S16 ?_ | refine S19 ?_ | refine S20 ?_ | refine S21 ?_ | refine S22 ?_ | refine S24 ?_ | refine S25 ?_ | refine S26 ?_ | refine S27 ?_ | refine S30 ?_ | refine S32 ?_ | refine S37 ?_ | refine S38 ?_ | refine S40 ?_ | refine S41 ?_ | refine S45 ?_ | refine S46 ?_ | refine S51 ?_ | refine S56 ?_ | refine S65 ?_ | refine S67 ?_ | refine S71 ?_ | refine S73 ?_)
        exact ⟨(k + 1, _, _), by simp only; omega, SLx, ⟨by show GH _ _ _ _ (gPut n a b (k + 1)) _; rw [e1, if_neg c2, if_pos c1]; exact H, hv, hl⟩, by simp only; omega⟩
    · have hlg : ∀ v, (gPut n a b k v).length ≤ 2 * k + 1 := fun v => by have := hle v; omega
      by_cases c2 : k < b k
      · have kl2 := line_e (n := 3 * n) (a := n + k) (b := n + b k) (by omega) (by omega) (by omega) (by omega) (by have := hlg (n + k); omega) (by have := hlg (n + b k); omega) _ hv H ho hl
        rw [show ((n + k : Nat) : Int) = (n : Int) + (k : Int) from rfl, show ((n + b k : Nat) : Int) = (n : Int) + (b k : Int) from rfl] at kl2
        iterate 42 (first | refine S0 ?_ | refine S1 ?_ | refine S2 ?_ | refine S4 ?_ | refine S5 ?_ | refine S6 ?_ | refine S7 ?_ | refine S8 ?_ | refine S10 ?_ | refine S11 ?_ | refine S13 ?_ | refine S15 ?_ | refine S16 ?_ | refine S19 ?_ | refine S20 ?_ | refine S21 ?_ | refine S22 ?_ | refine S24 ?_ | refine S25 ?_ | refine S26 ?_ | refine S27 ?_ | refine S30 ?_ | refine S32 ?_ | refine S37 ?_ | refine S38 ?_ | refine S40 ?_ | refine S41 ?_ | refine S45 ?_ | refine S46 ?_ | refine S51 ?_ | refine S56 ?_ | refine S65 ?_ | refine S67 ?_ | refine S71 ?_ | refine S73 ?_)
        refine CW.regionDM 10 (by kernel_rfl) (by rfl) (by rfl) (by intro _ h; cases h) ?_
        repeat (first | refine S0 ?_ | refine S1 ?_ | refine S2 ?_ | refine S4 ?_ | refine S5 ?_ | refine S6 ?_ | refine S7 ?_ | refine S8 ?_ | refine S10 ?_ | refine S11 ?_ | refine S13 ?_ | refine S15 ?_ | refine S16 ?_ | refine S19 ?_ | refine S20 ?_ | refine S21 ?_ | refine S22 ?_ | refine S24 ?_ | refine S25 ?_ | refine S26 ?_ | refine S27 ?_ | refine S30 ?_ | refine S32 ?_ | refine S37 ?_ | refine S38 ?_ | refine S40 ?_ | refine S41 ?_ | refine S45 ?_ | refine S46 ?_ | refine S51 ?_ | refine S56 ?_ | refine S65 ?_ | refine S67 ?_ | refine S71 ?_ | refine S73 ?_)
        rw [gb]
        refine LW.ope (d := 51) rfl (by omega) (fun _ => OpE.call rfl (kl2.mono ?_))
        rintro r h2 ⟨tk2, off2, hv2, H2, hl2⟩
        repeat (first | refine S0 ?_ | refine S1 ?_ | refine S2 ?_ | refine S4 ?_ | refine S5 ?_ | refine S6 ?_ | refine S7 ?_ | refine S8 ?_ | refine S10 ?_ | refine S11 ?_ | refine S13 ?_ | refine S15 ?_ | refine S16 ?_ | refine S19 ?_ | refine S20 ?_ | refine S21 ?_ | refine S22 ?_ | refine S24 ?_ | refine S25 ?_ | refine S26 ?_ | refine S27 ?_ | refine S30 ?_ | refine S32 ?_ | refine S37 ?_ | refine S38 ?_ | refine S40 ?_ | refine S41 ?_ | refine S45 ?_ | refine S46 ?_ | refine S51 ?_ | refine S56 ?_ | refine S65 ?_ | refine S67 ?_ | refine S71 ?_ | refine S73 ?_)
        exact ⟨(k + 1, tk2, off2), by simp only; omega, SLx, ⟨by show GH _ _ _ _ (gPut n a b (k + 1)) _; rw [e1, if_pos c2, if_neg c1]; exact H2, hv2, hl2⟩, by simp only; omega⟩
      · repeat (first | refine S0 ?_ | refine S1 ?_ | refine S2 ?_ | refine S4 ?_ | refine S5 ?_ | refine S6 ?_ | refine S7 ?_ | refine S8 ?_ | refine S10 ?_ | refine S11 ?_ | refine S13 ?_ | refine S15 ?_ | refine S16 ?_ | refine S19 ?_ | refine S20 ?_ | refine S21 ?_ | refine S22 ?_ | refine S24 ?_ | refine S25 ?_ | refine S26 ?_ | refine S27 ?_ | refine S30 ?_ | refine S32 ?_ | refine S37 ?_ | refine S38 ?_ | refine S40 ?_ | refine S41 ?_ | refine S45 ?_ | refine S46 ?_ | refine S51 ?_ | refine S56 ?_ | refine S65 ?_ | refine S67 ?_ | refine S71 ?_ | refine S73 ?_)
        exact ⟨(k + 1, _, _), by simp only; omega, SLx, ⟨by show GH _ _ _ _ (gPut n a b (k + 1)) _; rw [e1, if_neg c2, if_neg c1]; exact H, hv, hl⟩, by simp only; omega⟩
  · obtain rfl : k = 2 * n := by omega
    have hg := gPut_gr ha hb
    have hlen := gPut_len ha hb
    have hd : ∀ v, (gPut n a b (2 * n) v).length ≤ 100 := fun v => by rw [hlen]; split <;> (try split) <;> (try split) <;> omega
    repeat (first | refine S0 ?_ | refine S1 ?_ | refine S2 ?_ | refine S4 ?_ | refine S5 ?_ | refine S6 ?_ | refine S7 ?_ | refine S8 ?_ | refine S10 ?_ | refine S11 ?_ | refine S13 ?_ | refine S15 ?_ | refine S16 ?_ | refine S19 ?_ | refine S20 ?_ | refine S21 ?_ | refine S22 ?_ | refine S24 ?_ | refine S25 ?_ | refine S26 ?_ | refine S27 ?_ | refine S30 ?_ | refine S32 ?_ | refine S37 ?_ | refine S38 ?_ | refine S40 ?_ | refine S41 ?_ | refine S45 ?_ | refine S46 ?_ | refine S51 ?_ | refine S56 ?_ | refine S65 ?_ | refine S67 ?_ | refine S71 ?_ | refine S73 ?_)
    obtain ⟨To, hTo⟩ : ∃ To, To = hp.tok false := ⟨_, rfl⟩
    have hTn : hp.tok false = 2 * hp.next := HP.tokF _
    have hB : (hp.add false (ints (List.replicate (2 * n) 0))).blk To = some (ints (tabN (2 * n) (fun _ => 0))) := by rw [hTo, ← tabO_zero]; exact HP.add_same _ _ _
    have oB : ∀ x, x < 2 * hp.next → (hp.add false (ints (List.replicate (2 * n) 0))).blk x = hp.blk x := fun x hx => HP.add_other _ _ _ (by rw [hTn]; omega)
    have H' : GH (3 * n) T tk off (gPut n a b (2 * n)) (hp.add false (ints (List.replicate (2 * n) 0))) := H.keep (Nat.le_succ _) (fun x hx => oB x (by
      rcases hx with rfl | ⟨j, hj, rfl⟩
      · exact H.ltT
      · exact H.lt j hj))
    have hv' := (oB tf hl).trans hv
    have hnx : (hp.add false (ints (List.replicate (2 * n) 0))).next = hp.next + 1 := rfl
    have hTe : To % 2 = 0 := by omega
    have hTT : To ≠ T := by have := H.ltT; omega
    have hTk : ∀ j, j < 3 * n → tk j ≠ To := fun j hj => by have := H.lt j hj; omega
    rw [← hTo]
    generalize hp.add false (ints (List.replicate (2 * n) 0)) = X at *
    refine CW.loopS (fun i : Nat × (Nat → Nat) × Lns × (Nat → Nat) => i.1 ≤ 3 * n ∧ Gr (3 * n) i.2.2.1 ∧ (∀ v, (i.2.2.1 v).length ≤ 100) ∧ ∀ g' o', Ph n i.1 i.2.2.1 i.2.2.2 g' o' → Ph n 0 (gPut n a b (2 * n)) (fun _ => 0) g' o') (fun i => [(3, .lptr [pint n]), (8, .ptr tf 0), (10, .clo 75 [.lptr [pint n]]), (11, .ref To 0 1 (2 * n)), (58, pint (3 * n : Nat)), (59, pint i.1)])
      (fun i hp => GH (3 * n) T tk i.2.1 i.2.2.1 hp ∧ hp.blk tf = some [.ref T 0 1 (3 * n)] ∧ tf < 2 * hp.next ∧ hp.blk To = some (ints (tabN (2 * n) i.2.2.2)) ∧ To < 2 * hp.next) (fun i => 3 * n - i.1) (0, off, gPut n a b (2 * n), fun _ => 0) ⟨⟨Nat.zero_le _, hg, hd, fun _ _ h => h⟩, SLx, H', hv', by show tf < 2 * X.next; omega, hB, by show To < 2 * X.next; omega⟩ ?_
    clear H' hv' hB oB hnx H hv hl hTn hTo X hp off hd hg
    rintro ⟨p, off, g, u⟩ t hp ⟨hp3, hg, hd, hW⟩ ⟨H, hv, hl, hB, hTl⟩
    simp only at hp3 hg hd hW H hB
    first | simp only [updS] | simp only [updL, Nat.reduceAdd]
    have b0 := H.out
    have evT := H.evT
    have lT := H.ltT
    have hgl := gcs_len (3 * n) tk off g
    have htl : (tabN (2 * n) u).length = 2 * n := tab_len _ _
    by_cases hp2 : p < 3 * n
    · by_cases hi : isO n p
      · rcases hi with h1 | h1
        · have hpb : p < n := h1
          repeat (first | refine S0 ?_ | refine S1 ?_ | refine S2 ?_ | refine S4 ?_ | refine S5 ?_ | refine S6 ?_ | refine S7 ?_ | refine S8 ?_ | refine S10 ?_ | refine S11 ?_ | refine S13 ?_ | refine S15 ?_ | refine S16 ?_ | refine S19 ?_ | refine S20 ?_ | refine S21 ?_ | refine S22 ?_ | refine S24 ?_ | refine S25 ?_ | refine S26 ?_ | refine S27 ?_ | refine S30 ?_ | refine S32 ?_ | refine S37 ?_ | refine S38 ?_ | refine S40 ?_ | refine S41 ?_ | refine S45 ?_ | refine S46 ?_ | refine S51 ?_ | refine S56 ?_ | refine S65 ?_ | refine S67 ?_ | refine S71 ?_ | refine S73 ?_)
          rw [show 0 + (p : Int).toNat * 1 = p by simp]
          refine AW.ldm EVx (by first | exact Or.inl rfl | exact Or.inr ⟨rfl, HP.tok_even _⟩ | exact Or.inr (Or.inl ⟨rfl, HP.tok_even _⟩) | exact Or.inr (Or.inr ⟨rfl, HP.tok_odd _⟩) | exact Or.inr (Or.inl rfl) | exact Or.inr (Or.inr (Or.inl rfl)) | exact Or.inr (Or.inr (Or.inr (Or.inl ⟨rfl, HP.tok_odd _⟩))) | exact Or.inr (Or.inr (Or.inr (Or.inr ⟨rfl, HP.tok_even _⟩))) | exact Or.inr (Or.inr (Or.inr (Or.inr ⟨rfl, by assumption⟩))) | exact Or.inr ⟨rfl, by assumption⟩ | exact Or.inr (Or.inl ⟨rfl, by assumption⟩) | exact Or.inr (Or.inr ⟨rfl, by assumption⟩) | exact Or.inr (Or.inr (Or.inr (Or.inl ⟨rfl, by assumption⟩))) | exact Or.inr (Or.inr (Or.inl ⟨rfl, HP.tok_odd _⟩)) | exact Or.inr (Or.inr (Or.inl ⟨rfl, by assumption⟩)) | exact Or.inr (Or.inr (Or.inr rfl)) | exact Or.inr (Or.inr rfl) | exact Or.inr rfl) rfl b0 (gcs_get hp2) ?_
          by_cases e : g p = []
          · have hln : (g p).length = 0 := by rw [e]; rfl
            repeat (first | refine S0 ?_ | refine S1 ?_ | refine S2 ?_ | refine S4 ?_ | refine S5 ?_ | refine S6 ?_ | refine S7 ?_ | refine S8 ?_ | refine S10 ?_ | refine S11 ?_ | refine S13 ?_ | refine S15 ?_ | refine S16 ?_ | refine S19 ?_ | refine S20 ?_ | refine S21 ?_ | refine S22 ?_ | refine S24 ?_ | refine S25 ?_ | refine S26 ?_ | refine S27 ?_ | refine S30 ?_ | refine S32 ?_ | refine S37 ?_ | refine S38 ?_ | refine S40 ?_ | refine S41 ?_ | refine S45 ?_ | refine S46 ?_ | refine S51 ?_ | refine S56 ?_ | refine S65 ?_ | refine S67 ?_ | refine S71 ?_ | refine S73 ?_)
            exact ⟨(p + 1, off, g, u), ⟨by simp only; omega, hg, hd, fun g' o' h => hW g' o' (.skip hp2 (fun h => h.2 e) h)⟩, SLx, ⟨H, hv, hl, hB, hTl⟩, by simp only; omega⟩
          · have hln : 0 < (g p).length := List.length_pos_iff.2 e
            have hlp := hd p
            have kw := walk_e (by omega) hg hd hp2 hp hv H ho hl
            repeat (first | refine S0 ?_ | refine S1 ?_ | refine S2 ?_ | refine S4 ?_ | refine S5 ?_ | refine S6 ?_ | refine S7 ?_ | refine S8 ?_ | refine S10 ?_ | refine S11 ?_ | refine S13 ?_ | refine S15 ?_ | refine S16 ?_ | refine S19 ?_ | refine S20 ?_ | refine S21 ?_ | refine S22 ?_ | refine S24 ?_ | refine S25 ?_ | refine S26 ?_ | refine S27 ?_ | refine S30 ?_ | refine S32 ?_ | refine S37 ?_ | refine S38 ?_ | refine S40 ?_ | refine S41 ?_ | refine S45 ?_ | refine S46 ?_ | refine S51 ?_ | refine S56 ?_ | refine S65 ?_ | refine S67 ?_ | refine S71 ?_ | refine S73 ?_)
            refine Scalle (args := [.ptr tf 0, pint p]) kw ?_
            rintro r h' ⟨g1, e1, off1, rfl, hw1, hg1, he1, H1, F1⟩
            have hv1 := F1.get hl (H.ntf ho) hv
            have hB1 := F1.get hTl (fun hm => by
              rcases List.mem_cons.1 hm with e | hm
              · exact hTT e
              · obtain ⟨j, hj, e⟩ := List.mem_map.1 hm
                exact hTk j (List.mem_range.1 hj) e) hB
            have hnx := F1.next
            have kp := putPt_s (n := n) (p := p) (by omega) (by omega)
            have ke := putPt_s (n := n) (p := e1) (by omega) (by omega)
            have lp := ptN_lt hn.1 hp2
            have le := ptN_lt hn.1 he1
            repeat (first | refine S0 ?_ | refine S1 ?_ | refine S2 ?_ | refine S4 ?_ | refine S5 ?_ | refine S6 ?_ | refine S7 ?_ | refine S8 ?_ | refine S10 ?_ | refine S11 ?_ | refine S13 ?_ | refine S15 ?_ | refine S16 ?_ | refine S19 ?_ | refine S20 ?_ | refine S21 ?_ | refine S22 ?_ | refine S24 ?_ | refine S25 ?_ | refine S26 ?_ | refine S27 ?_ | refine S30 ?_ | refine S32 ?_ | refine S37 ?_ | refine S38 ?_ | refine S40 ?_ | refine S41 ?_ | refine S45 ?_ | refine S46 ?_ | refine S51 ?_ | refine S56 ?_ | refine S65 ?_ | refine S67 ?_ | refine S71 ?_ | refine S73 ?_)
            refine Scallv (args := [pint p, .lptr [pint n]]) kp ?_
            repeat (first | refine S0 ?_ | refine S1 ?_ | refine S2 ?_ | refine S4 ?_ | refine S5 ?_ | refine S6 ?_ | refine S7 ?_ | refine S8 ?_ | refine S10 ?_ | refine S11 ?_ | refine S13 ?_ | refine S15 ?_ | refine S16 ?_ | refine S19 ?_ | refine S20 ?_ | refine S21 ?_ | refine S22 ?_ | refine S24 ?_ | refine S25 ?_ | refine S26 ?_ | refine S27 ?_ | refine S30 ?_ | refine S32 ?_ | refine S37 ?_ | refine S38 ?_ | refine S40 ?_ | refine S41 ?_ | refine S45 ?_ | refine S46 ?_ | refine S51 ?_ | refine S56 ?_ | refine S65 ?_ | refine S67 ?_ | refine S71 ?_ | refine S73 ?_)
            refine Scallv (args := [pint e1, .lptr [pint n]]) ke ?_
            repeat (first | refine S0 ?_ | refine S1 ?_ | refine S2 ?_ | refine S4 ?_ | refine S5 ?_ | refine S6 ?_ | refine S7 ?_ | refine S8 ?_ | refine S10 ?_ | refine S11 ?_ | refine S13 ?_ | refine S15 ?_ | refine S16 ?_ | refine S19 ?_ | refine S20 ?_ | refine S21 ?_ | refine S22 ?_ | refine S24 ?_ | refine S25 ?_ | refine S26 ?_ | refine S27 ?_ | refine S30 ?_ | refine S32 ?_ | refine S37 ?_ | refine S38 ?_ | refine S40 ?_ | refine S41 ?_ | refine S45 ?_ | refine S46 ?_ | refine S51 ?_ | refine S56 ?_ | refine S65 ?_ | refine S67 ?_ | refine S71 ?_ | refine S73 ?_)
            refine Scallv (args := [pint e1, .lptr [pint n]]) ke ?_
            repeat (first | refine S0 ?_ | refine S1 ?_ | refine S2 ?_ | refine S4 ?_ | refine S5 ?_ | refine S6 ?_ | refine S7 ?_ | refine S8 ?_ | refine S10 ?_ | refine S11 ?_ | refine S13 ?_ | refine S15 ?_ | refine S16 ?_ | refine S19 ?_ | refine S20 ?_ | refine S21 ?_ | refine S22 ?_ | refine S24 ?_ | refine S25 ?_ | refine S26 ?_ | refine S27 ?_ | refine S30 ?_ | refine S32 ?_ | refine S37 ?_ | refine S38 ?_ | refine S40 ?_ | refine S41 ?_ | refine S45 ?_ | refine S46 ?_ | refine S51 ?_ | refine S56 ?_ | refine S65 ?_ | refine S67 ?_ | refine S71 ?_ | refine S73 ?_)
            refine Scallv (args := [pint p, .lptr [pint n]]) kp ?_
            repeat (first | refine S0 ?_ | refine S1 ?_ | refine S2 ?_ | refine S4 ?_ | refine S5 ?_ | refine S6 ?_ | refine S7 ?_ | refine S8 ?_ | refine S10 ?_ | refine S11 ?_ | refine S13 ?_ | refine S15 ?_ | refine S16 ?_ | refine S19 ?_ | refine S20 ?_ | refine S21 ?_ | refine S22 ?_ | refine S24 ?_ | refine S25 ?_ | refine S26 ?_ | refine S27 ?_ | refine S30 ?_ | refine S32 ?_ | refine S37 ?_ | refine S38 ?_ | refine S40 ?_ | refine S41 ?_ | refine S45 ?_ | refine S46 ?_ | refine S51 ?_ | refine S56 ?_ | refine S65 ?_ | refine S67 ?_ | refine S71 ?_ | refine S73 ?_)
            rw [tabO_set, tabO_set]
            have nT : ∀ x, x ≠ To → ((h'.set To (ints (tabN (2 * n) (ov2 u (ptN n p) (ptN n e1))))).set To (ints (tabN (2 * n) (ov2 (ov2 u (ptN n p) (ptN n e1)) (ptN n e1) (ptN n p))))).blk x = h'.blk x := fun x hx => (HP.set_other _ _ hx).trans (HP.set_other _ _ hx)
            have H2 := H1.keep (h' := (h'.set To (ints (tabN (2 * n) (ov2 u (ptN n p) (ptN n e1))))).set To (ints (tabN (2 * n) (ov2 (ov2 u (ptN n p) (ptN n e1)) (ptN n e1) (ptN n p))))) (Nat.le_refl _) (fun x hx => nT x (by
              rcases hx with rfl | ⟨j, hj, rfl⟩
              · exact fun e => hTT e.symm
              · exact hTk j hj))
            exact ⟨(p + 1, off1, g1, ov2 (ov2 u (ptN n p) (ptN n e1)) (ptN n e1) (ptN n p)), ⟨by simp only; omega, hg1, fun v => Nat.le_trans (wg_len hw1 hg hp2 v) (hd v), fun g' o' h => hW g' o' (.take hp2 (by first | exact .inl h1 | exact .inr h1) e hw1 h)⟩, SLx, ⟨H2, (nT tf (by omega)).trans hv1, by show tf < 2 * h'.next; omega, HP.set_same _ _ _, by show To < 2 * h'.next; omega⟩, by simp only; omega⟩
        · have hpb : ¬ p < n := by omega
          repeat (first | refine S0 ?_ | refine S1 ?_ | refine S2 ?_ | refine S4 ?_ | refine S5 ?_ | refine S6 ?_ | refine S7 ?_ | refine S8 ?_ | refine S10 ?_ | refine S11 ?_ | refine S13 ?_ | refine S15 ?_ | refine S16 ?_ | refine S19 ?_ | refine S20 ?_ | refine S21 ?_ | refine S22 ?_ | refine S24 ?_ | refine S25 ?_ | refine S26 ?_ | refine S27 ?_ | refine S30 ?_ | refine S32 ?_ | refine S37 ?_ | refine S38 ?_ | refine S40 ?_ | refine S41 ?_ | refine S45 ?_ | refine S46 ?_ | refine S51 ?_ | refine S56 ?_ | refine S65 ?_ | refine S67 ?_ | refine S71 ?_ | refine S73 ?_)
          rw [show 0 + (p : Int).toNat * 1 = p by simp]
          refine AW.ldm EVx (by first | exact Or.inl rfl | exact Or.inr ⟨rfl, HP.tok_even _⟩ | exact Or.inr (Or.inl ⟨rfl, HP.tok_even _⟩) | exact Or.inr (Or.inr ⟨rfl, HP.tok_odd _⟩) | exact Or.inr (Or.inl rfl) | exact Or.inr (Or.inr (Or.inl rfl)) | exact Or.inr (Or.inr (Or.inr (Or.inl ⟨rfl, HP.tok_odd _⟩))) | exact Or.inr (Or.inr (Or.inr (Or.inr ⟨rfl, HP.tok_even _⟩))) | exact Or.inr (Or.inr (Or.inr (Or.inr ⟨rfl, by assumption⟩))) | exact Or.inr ⟨rfl, by assumption⟩ | exact Or.inr (Or.inl ⟨rfl, by assumption⟩) | exact Or.inr (Or.inr ⟨rfl, by assumption⟩) | exact Or.inr (Or.inr (Or.inr (Or.inl ⟨rfl, by assumption⟩))) | exact Or.inr (Or.inr (Or.inl ⟨rfl, HP.tok_odd _⟩)) | exact Or.inr (Or.inr (Or.inl ⟨rfl, by assumption⟩)) | exact Or.inr (Or.inr (Or.inr rfl)) | exact Or.inr (Or.inr rfl) | exact Or.inr rfl) rfl b0 (gcs_get hp2) ?_
          by_cases e : g p = []
          · have hln : (g p).length = 0 := by rw [e]; rfl
            repeat (first | refine S0 ?_ | refine S1 ?_ | refine S2 ?_ | refine S4 ?_ | refine S5 ?_ | refine S6 ?_ | refine S7 ?_ | refine S8 ?_ | refine S10 ?_ | refine S11 ?_ | refine S13 ?_ | refine S15 ?_ | refine S16 ?_ | refine S19 ?_ | refine S20 ?_ | refine S21 ?_ | refine S22 ?_ | refine S24 ?_ | refine S25 ?_ | refine S26 ?_ | refine S27 ?_ | refine S30 ?_ | refine S32 ?_ | refine S37 ?_ | refine S38 ?_ | refine S40 ?_ | refine S41 ?_ | refine S45 ?_ | refine S46 ?_ | refine S51 ?_ | refine S56 ?_ | refine S65 ?_ | refine S67 ?_ | refine S71 ?_ | refine S73 ?_)
            exact ⟨(p + 1, off, g, u), ⟨by simp only; omega, hg, hd, fun g' o' h => hW g' o' (.skip hp2 (fun h => h.2 e) h)⟩, SLx, ⟨H, hv, hl, hB, hTl⟩, by simp only; omega⟩
          · have hln : 0 < (g p).length := List.length_pos_iff.2 e
            have hlp := hd p
            have kw := walk_e (by omega) hg hd hp2 hp hv H ho hl
            repeat (first | refine S0 ?_ | refine S1 ?_ | refine S2 ?_ | refine S4 ?_ | refine S5 ?_ | refine S6 ?_ | refine S7 ?_ | refine S8 ?_ | refine S10 ?_ | refine S11 ?_ | refine S13 ?_ | refine S15 ?_ | refine S16 ?_ | refine S19 ?_ | refine S20 ?_ | refine S21 ?_ | refine S22 ?_ | refine S24 ?_ | refine S25 ?_ | refine S26 ?_ | refine S27 ?_ | refine S30 ?_ | refine S32 ?_ | refine S37 ?_ | refine S38 ?_ | refine S40 ?_ | refine S41 ?_ | refine S45 ?_ | refine S46 ?_ | refine S51 ?_ | refine S56 ?_ | refine S65 ?_ | refine S67 ?_ | refine S71 ?_ | refine S73 ?_)
            refine Scalle (args := [.ptr tf 0, pint p]) kw ?_
            rintro r h' ⟨g1, e1, off1, rfl, hw1, hg1, he1, H1, F1⟩
            have hv1 := F1.get hl (H.ntf ho) hv
            have hB1 := F1.get hTl (fun hm => by
              rcases List.mem_cons.1 hm with e | hm
              · exact hTT e
              · obtain ⟨j, hj, e⟩ := List.mem_map.1 hm
                exact hTk j (List.mem_range.1 hj) e) hB
            have hnx := F1.next
            have kp := putPt_s (n := n) (p := p) (by omega) (by omega)
            have ke := putPt_s (n := n) (p := e1) (by omega) (by omega)
            have lp := ptN_lt hn.1 hp2
            have le := ptN_lt hn.1 he1
            repeat (first | refine S0 ?_ | refine S1 ?_ | refine S2 ?_ | refine S4 ?_ | refine S5 ?_ | refine S6 ?_ | refine S7 ?_ | refine S8 ?_ | refine S10 ?_ | refine S11 ?_ | refine S13 ?_ | refine S15 ?_ | refine S16 ?_ | refine S19 ?_ | refine S20 ?_ | refine S21 ?_ | refine S22 ?_ | refine S24 ?_ | refine S25 ?_ | refine S26 ?_ | refine S27 ?_ | refine S30 ?_ | refine S32 ?_ | refine S37 ?_ | refine S38 ?_ | refine S40 ?_ | refine S41 ?_ | refine S45 ?_ | refine S46 ?_ | refine S51 ?_ | refine S56 ?_ | refine S65 ?_ | refine S67 ?_ | refine S71 ?_ | refine S73 ?_)
            refine Scallv (args := [pint p, .lptr [pint n]]) kp ?_
            repeat (first | refine S0 ?_ | refine S1 ?_ | refine S2 ?_ | refine S4 ?_ | refine S5 ?_ | refine S6 ?_ | refine S7 ?_ | refine S8 ?_ | refine S10 ?_ | refine S11 ?_ | refine S13 ?_ | refine S15 ?_ | refine S16 ?_ | refine S19 ?_ | refine S20 ?_ | refine S21 ?_ | refine S22 ?_ | refine S24 ?_ | refine S25 ?_ | refine S26 ?_ | refine S27 ?_ | refine S30 ?_ | refine S32 ?_ | refine S37 ?_ | refine S38 ?_ | refine S40 ?_ | refine S41 ?_ | refine S45 ?_ | refine S46 ?_ | refine S51 ?_ | refine S56 ?_ | refine S65 ?_ | refine S67 ?_ | refine S71 ?_ | refine S73 ?_)
            refine Scallv (args := [pint e1, .lptr [pint n]]) ke ?_
            repeat (first | refine S0 ?_ | refine S1 ?_ | refine S2 ?_ | refine S4 ?_ | refine S5 ?_ | refine S6 ?_ | refine S7 ?_ | refine S8 ?_ | refine S10 ?_ | refine S11 ?_ | refine S13 ?_ | refine S15 ?_ | refine S16 ?_ | refine S19 ?_ | refine S20 ?_ | refine S21 ?_ | refine S22 ?_ | refine S24 ?_ | refine S25 ?_ | refine S26 ?_ | refine S27 ?_ | refine S30 ?_ | refine S32 ?_ | refine S37 ?_ | refine S38 ?_ | refine S40 ?_ | refine S41 ?_ | refine S45 ?_ | refine S46 ?_ | refine S51 ?_ | refine S56 ?_ | refine S65 ?_ | refine S67 ?_ | refine S71 ?_ | refine S73 ?_)
            refine Scallv (args := [pint e1, .lptr [pint n]]) ke ?_
            repeat (first | refine S0 ?_ | refine S1 ?_ | refine S2 ?_ | refine S4 ?_ | refine S5 ?_ | refine S6 ?_ | refine S7 ?_ | refine S8 ?_ | refine S10 ?_ | refine S11 ?_ | refine S13 ?_ | refine S15 ?_ | refine S16 ?_ | refine S19 ?_ | refine S20 ?_ | refine S21 ?_ | refine S22 ?_ | refine S24 ?_ | refine S25 ?_ | refine S26 ?_ | refine S27 ?_ | refine S30 ?_ | refine S32 ?_ | refine S37 ?_ | refine S38 ?_ | refine S40 ?_ | refine S41 ?_ | refine S45 ?_ | refine S46 ?_ | refine S51 ?_ | refine S56 ?_ | refine S65 ?_ | refine S67 ?_ | refine S71 ?_ | refine S73 ?_)
            refine Scallv (args := [pint p, .lptr [pint n]]) kp ?_
            repeat (first | refine S0 ?_ | refine S1 ?_ | refine S2 ?_ | refine S4 ?_ | refine S5 ?_ | refine S6 ?_ | refine S7 ?_ | refine S8 ?_ | refine S10 ?_ | refine S11 ?_ | refine S13 ?_ | refine S15 ?_ | refine S16 ?_ | refine S19 ?_ | refine S20 ?_ | refine S21 ?_ | refine S22 ?_ | refine S24 ?_ | refine S25 ?_ | refine S26 ?_ | refine S27 ?_ | refine S30 ?_ | refine S32 ?_ | refine S37 ?_ | refine S38 ?_ | refine S40 ?_ | refine S41 ?_ | refine S45 ?_ | refine S46 ?_ | refine S51 ?_ | refine S56 ?_ | refine S65 ?_ | refine S67 ?_ | refine S71 ?_ | refine S73 ?_)
            rw [tabO_set, tabO_set]
            have nT : ∀ x, x ≠ To → ((h'.set To (ints (tabN (2 * n) (ov2 u (ptN n p) (ptN n e1))))).set To (ints (tabN (2 * n) (ov2 (ov2 u (ptN n p) (ptN n e1)) (ptN n e1) (ptN n p))))).blk x = h'.blk x := fun x hx => (HP.set_other _ _ hx).trans (HP.set_other _ _ hx)
            have H2 := H1.keep (h' := (h'.set To (ints (tabN (2 * n) (ov2 u (ptN n p) (ptN n e1))))).set To (ints (tabN (2 * n) (ov2 (ov2 u (ptN n p) (ptN n e1)) (ptN n e1) (ptN n p))))) (Nat.le_refl _) (fun x hx => nT x (by
              rcases hx with rfl | ⟨j, hj, rfl⟩
              · exact fun e => hTT e.symm
              · exact hTk j hj))
            exact ⟨(p + 1, off1, g1, ov2 (ov2 u (ptN n p) (ptN n e1)) (ptN n e1) (ptN n p)), ⟨by simp only; omega, hg1, fun v => Nat.le_trans (wg_len hw1 hg hp2 v) (hd v), fun g' o' h => hW g' o' (.take hp2 (by first | exact .inl h1 | exact .inr h1) e hw1 h)⟩, SLx, ⟨H2, (nT tf (by omega)).trans hv1, by show tf < 2 * h'.next; omega, HP.set_same _ _ _, by show To < 2 * h'.next; omega⟩, by simp only; omega⟩
      · have h1 : ¬ p < n := fun h => hi (.inl h)
        have h2 : ¬ 2 * n ≤ p := fun h => hi (.inr h)
        repeat (first | refine S0 ?_ | refine S1 ?_ | refine S2 ?_ | refine S4 ?_ | refine S5 ?_ | refine S6 ?_ | refine S7 ?_ | refine S8 ?_ | refine S10 ?_ | refine S11 ?_ | refine S13 ?_ | refine S15 ?_ | refine S16 ?_ | refine S19 ?_ | refine S20 ?_ | refine S21 ?_ | refine S22 ?_ | refine S24 ?_ | refine S25 ?_ | refine S26 ?_ | refine S27 ?_ | refine S30 ?_ | refine S32 ?_ | refine S37 ?_ | refine S38 ?_ | refine S40 ?_ | refine S41 ?_ | refine S45 ?_ | refine S46 ?_ | refine S51 ?_ | refine S56 ?_ | refine S65 ?_ | refine S67 ?_ | refine S71 ?_ | refine S73 ?_)
        exact ⟨(p + 1, off, g, u), ⟨by simp only; omega, hg, hd, fun g' o' h => hW g' o' (.skip hp2 (fun h => hi h.1) h)⟩, SLx, ⟨H, hv, hl, hB, hTl⟩, by simp only; omega⟩
    · obtain rfl : p = 3 * n := by omega
      have kl := loops_e (by omega) hg hd hp hv H ho hl
      repeat (first | refine S0 ?_ | refine S1 ?_ | refine S2 ?_ | refine S4 ?_ | refine S5 ?_ | refine S6 ?_ | refine S7 ?_ | refine S8 ?_ | refine S10 ?_ | refine S11 ?_ | refine S13 ?_ | refine S15 ?_ | refine S16 ?_ | refine S19 ?_ | refine S20 ?_ | refine S21 ?_ | refine S22 ?_ | refine S24 ?_ | refine S25 ?_ | refine S26 ?_ | refine S27 ?_ | refine S30 ?_ | refine S32 ?_ | refine S37 ?_ | refine S38 ?_ | refine S40 ?_ | refine S41 ?_ | refine S45 ?_ | refine S46 ?_ | refine S51 ?_ | refine S56 ?_ | refine S65 ?_ | refine S67 ?_ | refine S71 ?_ | refine S73 ?_)
      refine Scalle (args := [.ptr tf 0]) kl ?_
      rintro r h' ⟨c', rfl, hL, F1⟩
      have hB1 := F1.get hTl (fun hm => by
        rcases List.mem_cons.1 hm with e | hm
        · exact hTT e
        · obtain ⟨j, hj, e⟩ := List.mem_map.1 hm
          exact hTk j (List.mem_range.1 hj) e) hB
      obtain ⟨ho1, rfl⟩ := hfix g u c' (hW g u .done) hL
      repeat (first | refine S0 ?_ | refine S1 ?_ | refine S2 ?_ | refine S4 ?_ | refine S5 ?_ | refine S6 ?_ | refine S7 ?_ | refine S8 ?_ | refine S10 ?_ | refine S11 ?_ | refine S13 ?_ | refine S15 ?_ | refine S16 ?_ | refine S19 ?_ | refine S20 ?_ | refine S21 ?_ | refine S22 ?_ | refine S24 ?_ | refine S25 ?_ | refine S26 ?_ | refine S27 ?_ | refine S30 ?_ | refine S32 ?_ | refine S37 ?_ | refine S38 ?_ | refine S40 ?_ | refine S41 ?_ | refine S45 ?_ | refine S46 ?_ | refine S51 ?_ | refine S56 ?_ | refine S65 ?_ | refine S67 ?_ | refine S71 ?_ | refine S73 ?_)
      exact ⟨.inr rfl, Fz.pairP (Fz.refI hB1 (tab_len _ _).symm (tab_ext ho1)) (.cl rfl)⟩
end Go.Proofs.Ytdlpbpfcgjgppaa
