/- link.LinkingNumbers. No condition of its own. -/
import Derived.Test.YtgjfpmjllpgadaaGLinkPartsBS
import Derived.Test.YtgjfpmjllpgadaaGLinkPartsBR
import Derived.Test.YtgjfpmjllpgadaaGLinkPartsBK
set_option linter.unusedVariables false
set_option linter.unusedSimpArgs false
namespace Go.Proofs.Ytgjfpmjllpgadaa
open Go.RowKit

theorem crS_row_a {of : Nat → Nat} {w : List Int} {j a b k : Nat} (hA : crA of w j = a) (hB : crB of w j = b) (hb : b < k) : (rowF k (crS of w j a)).set b (crS of w j a b + sgnX (w.getD j 0)) = rowF k (crS of w (j + 1) a) := by
  refine rowF_set hb ?_ (fun q _ hq => ?_)
  · simp only [crS, hA, hB]
    rw [if_pos (.inl ⟨trivial, trivial⟩)]
  · simp only [crS, hA, hB]
    rw [if_neg (by omega)]; omega
theorem crS_row_b {of : Nat → Nat} {w : List Int} {j a b k : Nat} (hA : crA of w j = a) (hB : crB of w j = b) (ha : a < k) (hne : a ≠ b) : (rowF k (crS of w j b)).set a (crS of w j b a + sgnX (w.getD j 0)) = rowF k (crS of w (j + 1) b) := by
  refine rowF_set ha ?_ (fun q _ hq => ?_)
  · simp only [crS, hA, hB]
    rw [if_pos (.inr ⟨trivial, trivial⟩)]
  · simp only [crS, hA, hB]
    rw [if_neg (by omega)]; omega
theorem crS_row_o {of : Nat → Nat} {w : List Int} {j a b k p : Nat} (hA : crA of w j = a) (hB : crB of w j = b) (h1 : p ≠ a) (h2 : p ≠ b) : rowF k (crS of w j p) = rowF k (crS of w (j + 1) p) := by
  refine rowF_ext (fun q _ => ?_)
  simp only [crS, hA, hB]
  rw [if_neg (by omega)]; omega

/-- the rows while they are halved: those before p, and of row p what lies before q -/
def hlv (of : Nat → Nat) (w : List Int) (p q r c : Nat) : Int := if r < p ∨ (r = p ∧ c < q) then lnk of w r c else crS of w w.length r c
theorem hlv_diag {of : Nat → Nat} {w : List Int} {p q r c : Nat} (h : p = q) : hlv of w p q r c = hlv of w p (q + 1) r c := by
  unfold hlv
  by_cases h1 : r < p ∨ (r = p ∧ c < q)
  · rw [if_pos h1, if_pos (by omega)]
  · rw [if_neg h1]
    by_cases h2 : r < p ∨ (r = p ∧ c < q + 1)
    · rw [if_pos h2]; unfold lnk; rw [if_pos (by omega)]
    · rw [if_neg h2]
theorem hlv_next {of : Nat → Nat} {w : List Int} {p k r c : Nat} (hc : c < k) : hlv of w p k r c = hlv of w (p + 1) 0 r c := by
  unfold hlv
  by_cases h1 : r < p ∨ (r = p ∧ c < k)
  · rw [if_pos h1, if_pos (by omega)]
  · rw [if_neg h1, if_neg (by omega)]
theorem hlv_row {of : Nat → Nat} {w : List Int} {p q k : Nat} (hq : q < k) (hne : p ≠ q) : (rowF k (hlv of w p q p)).set q ((crS of w w.length p q).tdiv 2) = rowF k (hlv of w p (q + 1) p) := by
  refine rowF_set hq ?_ (fun c _ hc => ?_)
  · unfold hlv lnk
    rw [if_pos (by omega), if_neg hne]
  · unfold hlv
    by_cases h1 : p < p ∨ (p = p ∧ c < q)
    · rw [if_pos h1, if_pos (by omega)]
    · rw [if_neg h1, if_neg (by omega)]
theorem hlv_oth {of : Nat → Nat} {w : List Int} {p q r c : Nat} (h : r ≠ p) : hlv of w p q r c = hlv of w p (q + 1) r c := by
  unfold hlv
  by_cases h1 : r < p ∨ (r = p ∧ c < q)
  · rw [if_pos h1, if_pos (by omega)]
  · rw [if_neg h1, if_neg (by omega)]

set_option maxHeartbeats 16000000 in
set_option maxRecDepth 100000 in
theorem lnums_ok {N : Nat} {w : List Int} (hN : 1 ≤ N) (hw : Wd N w) (h0 : bF N w = 0) : SC Try.prog 45 [pint N, pli w] (.tup [plls ((List.range (cmpK (eAt w w.length) N N).length).map fun p => rowF (cmpK (eAt w w.length) N N).length (lnk (ofN (eAt w w.length) N) w p)), pint 0]) := by
  have kc := bcheck_s N w
  rw [h0] at kc
  have k2 := components_s hN hw h0
  have hln := cmpK_len (eAt w w.length) N N
  have hcl := plct_cl (cmpK (eAt w w.length) N N)
  have hN6 := hw.n9
  have hmem := fun k (h : k < (cmpK (eAt w w.length) N N).length) l (hl : l < ((cmpK (eAt w w.length) N N).getD k []).length) => cmp_in h hl
  have hmem2 := fun k (h : k < (cmpK (eAt w w.length) N N).length) (x : Int) => cmp_mem (f := eAt w w.length) (n := N) h (x := x)
  have hlens := fun k (h : k < (cmpK (eAt w w.length) N N).length) => cmp_lens h
  have hof : ∀ x, x < N → ofN (eAt w w.length) N x < (cmpK (eAt w w.length) N N).length := fun x hx => by rw [cmp_len]; exact (ofN_spec hx).1
  have hI := identity_o N (by omega)
  generalize ofN (eAt w w.length) N = of at *
  generalize cmpK (eAt w w.length) N N = ms at *
  obtain ⟨K, hK⟩ : ∃ K, K = ms.length := ⟨_, rfl⟩
  rw [← hK] at hln hof hmem hmem2 hlens ⊢
  refine SC.go {} tok mixed Try.func45 rfl rfl Try.ntmps45 rfl rfl (by kernel_rfl) ?_
  first | simp only [updS] | simp only [updL, Nat.reduceAdd]
  repeat (first | refine S0 ?_ | refine S1 ?_ | refine S2 ?_ | refine S3 ?_ | refine S4 ?_ | refine S5 ?_ | refine S6 ?_ | refine S7 ?_ | refine S8 ?_ | refine S10 ?_ | refine S11 ?_ | refine S13 ?_ | refine S15 ?_ | refine S16 ?_ | refine S19 ?_ | refine S20 ?_ | refine S21 ?_ | refine S22 ?_ | refine S23 ?_ | refine S24 ?_ | refine S25 ?_ | refine S26 ?_ | refine S27 ?_ | refine S29 ?_ | refine S33 ?_ | refine S46 ?_ | refine S65 ?_ | refine S71 ?_ | refine S72 ?_ | refine S75 ?_)
  refine Scall (args := [pint N, pli w]) kc ?_
  repeat (first | refine S0 ?_ | refine S1 ?_ | refine S2 ?_ | refine S3 ?_ | refine S4 ?_ | refine S5 ?_ | refine S6 ?_ | refine S7 ?_ | refine S8 ?_ | refine S10 ?_ | refine S11 ?_ | refine S13 ?_ | refine S15 ?_ | refine S16 ?_ | refine S19 ?_ | refine S20 ?_ | refine S21 ?_ | refine S22 ?_ | refine S23 ?_ | refine S24 ?_ | refine S25 ?_ | refine S26 ?_ | refine S27 ?_ | refine S29 ?_ | refine S33 ?_ | refine S46 ?_ | refine S65 ?_ | refine S71 ?_ | refine S72 ?_ | refine S75 ?_)
  refine Scall (args := [pint N, pli w]) k2 ?_
  unfold plct
  rw [← hK]
  repeat (first | refine S0 ?_ | refine S1 ?_ | refine S2 ?_ | refine S3 ?_ | refine S4 ?_ | refine S5 ?_ | refine S6 ?_ | refine S7 ?_ | refine S8 ?_ | refine S10 ?_ | refine S11 ?_ | refine S13 ?_ | refine S15 ?_ | refine S16 ?_ | refine S19 ?_ | refine S20 ?_ | refine S21 ?_ | refine S22 ?_ | refine S23 ?_ | refine S24 ?_ | refine S25 ?_ | refine S26 ?_ | refine S27 ?_ | refine S29 ?_ | refine S33 ?_ | refine S46 ?_ | refine S65 ?_ | refine S71 ?_ | refine S72 ?_ | refine S75 ?_)
  refine CW.loopS (fun i : Nat × (Nat → Nat) × List Int => i.1 ≤ K ∧ i.2.2.length = N ∧ (∀ x, x < N → of x < i.1 → i.2.2.getD x 0 = (of x : Int)) ∧ ∀ j, j < i.1 → i.2.1 j ≠ 0)
    (fun i => [(0, pint N), (1, pli w), (7, .lst true 1 K (ms.map plt)), (8, .ref 0 0 1 N), (9, .ref 2 0 1 K), (36, .lst true 1 K (ms.map plt)), (37, pint K), (38, pint i.1)])
    (fun i hp => RowsI K i.1 2 i.2.1 (fun _ => rowF K (fun _ => 0)) hp ∧ hp.blk 0 = some (ints i.2.2)) (fun i => K - i.1) (0, fun _ => 0, List.replicate N 0)
    ⟨⟨Nat.zero_le _, by simp, fun x _ hx => by simp only at hx; omega, fun j hj => by simp only at hj; omega⟩, SLx, RowsI.start HBx rfl (by show 2 < 2 * 2; decide), HBx⟩ ?_
  rintro ⟨k, tk, zs⟩ t hp ⟨hk, hzl, hzs, htk⟩ ⟨R, hB⟩
  simp only at hk hzl hzs htk R hB
  first | simp only [updS] | simp only [updL, Nat.reduceAdd]
  by_cases hk2 : k < K
  · have b0 := R.out
    have l0 := R.ltT
    have hmk : k < ms.length := by omega
    repeat (first | refine S0 ?_ | refine S1 ?_ | refine S2 ?_ | refine S3 ?_ | refine S4 ?_ | refine S5 ?_ | refine S6 ?_ | refine S7 ?_ | refine S8 ?_ | refine S10 ?_ | refine S11 ?_ | refine S13 ?_ | refine S15 ?_ | refine S16 ?_ | refine S19 ?_ | refine S20 ?_ | refine S21 ?_ | refine S22 ?_ | refine S23 ?_ | refine S24 ?_ | refine S25 ?_ | refine S26 ?_ | refine S27 ?_ | refine S29 ?_ | refine S33 ?_ | refine S46 ?_ | refine S65 ?_ | refine S71 ?_ | refine S72 ?_ | refine S75 ?_)
    obtain ⟨T', hT'⟩ : ∃ T', T' = hp.tok false := ⟨_, rfl⟩
    have hTn : T' = 2 * hp.next := by rw [hT', HP.tokF]
    rw [← hT', show 0 + (k : Int).toNat * 1 = k by simp]
    obtain ⟨X, hX⟩ : ∃ X, X = hp.add false (ints (List.replicate K 0)) := ⟨_, rfl⟩
    have hXT : X.blk T' = some (ints (List.replicate K 0)) := by rw [hX, hT']; exact HP.add_same _ _ _
    have hXb : ∀ t, t ≠ T' → X.blk t = hp.blk t := fun t ht => by rw [hX]; exact HP.add_other _ _ _ (by rw [← hT']; exact ht)
    have hXn : X.next = hp.next + 1 := by rw [hX]; rfl
    rw [← hX]
    refine AW.stR (r := (outI K tk (fun _ => rowF K (fun _ => 0)) k).set k (.ref T' 0 1 K)) (by simp only [evA, upd, putA, ofConst, ofConst.ofCell, Nat.reduceEqDiff, ↓reduceIte, List.map_cons, List.map_nil, List.toList_toArray]; first | done | rfl) (by first | exact Or.inl rfl | exact Or.inr ⟨rfl, HP.tok_even _⟩ | exact Or.inr (Or.inl ⟨rfl, HP.tok_even _⟩) | exact Or.inr (Or.inr ⟨rfl, HP.tok_odd _⟩) | exact Or.inr (Or.inl rfl) | exact Or.inr (Or.inr (Or.inl rfl)) | exact Or.inr (Or.inr (Or.inr (Or.inl ⟨rfl, HP.tok_odd _⟩))) | exact Or.inr (Or.inr (Or.inr (Or.inr ⟨rfl, HP.tok_even _⟩))) | exact Or.inr (Or.inr (Or.inr (Or.inr ⟨rfl, by assumption⟩))) | exact Or.inr ⟨rfl, by assumption⟩ | exact Or.inr (Or.inl ⟨rfl, by assumption⟩) | exact Or.inr (Or.inr ⟨rfl, by assumption⟩) | exact Or.inr (Or.inr (Or.inr (Or.inl ⟨rfl, by assumption⟩))) | exact Or.inr (Or.inr (Or.inl ⟨rfl, HP.tok_odd _⟩)) | exact Or.inr (Or.inr (Or.inl ⟨rfl, by assumption⟩)) | exact Or.inr (Or.inr (Or.inr rfl)) | exact Or.inr (Or.inr rfl) | exact Or.inr rfl) (by simp only [evA, upd, putA, ofConst, ofConst.ofCell, Nat.reduceEqDiff, ↓reduceIte, List.map_cons, List.map_nil, List.toList_toArray]; first | done | rfl) rfl ((hXb 2 (by omega)).trans b0) (by rw [outI_len]; omega) (by first | rfl | (simp only [PV.one, pint, pfr]; done)) rfl ?_
    obtain ⟨Y, hY⟩ : ∃ Y, Y = X.set 2 ((outI K tk (fun _ => rowF K (fun _ => 0)) k).set k (.ref T' 0 1 K)) := ⟨_, rfl⟩
    have hYn : Y.next = hp.next + 1 := by rw [hY]; exact hXn
    have RY : RowsI K (k + 1) 2 (ovr tk k T') (fun _ => rowF K (fun _ => 0)) Y := by
      have := R.push (X := Y) (r := rowF K (fun _ => 0)) hk2 (T' := T') (by omega) (by omega) (by omega) (by omega) (by rw [hY, rowF_len]; exact HP.set_same _ _ _) (fun j hj => by rw [hY]; exact (HP.set_other _ _ (R.ne j hj)).trans (hXb _ (by have := R.lt j hj; omega))) (by rw [hY, rowF_zero]; exact (HP.set_other _ _ (by omega)).trans hXT)
      exact this.cong (fun j hj => by
        by_cases e : j = k
        · rw [e, ovr_same]
        · rw [ovr_ne _ _ e])
    have hBY : Y.blk 0 = some (ints zs) := by rw [hY]; exact (HP.set_other _ _ (by decide)).trans ((hXb 0 (by omega)).trans hB)
    have htk2 : ∀ j, j < k + 1 → ovr tk k T' j ≠ 0 := fun j hj => by
      by_cases e : j = k
      · rw [e, ovr_same]; omega
      · rw [ovr_ne _ _ e]; exact htk j (by omega)
    generalize ovr tk k T' = tk2 at *
    rw [← hY]
    clear hY hX hXT hXb hXn R hB b0 l0
    have hcm := hmem k hk2
    have hcm2 := hmem2 k hk2
    have hcln := hlens k hk2
    generalize hc : ms.getD k [] = c at *
    repeat (first | refine S0 ?_ | refine S1 ?_ | refine S2 ?_ | refine S3 ?_ | refine S4 ?_ | refine S5 ?_ | refine S6 ?_ | refine S7 ?_ | refine S8 ?_ | refine S10 ?_ | refine S11 ?_ | refine S13 ?_ | refine S15 ?_ | refine S16 ?_ | refine S19 ?_ | refine S20 ?_ | refine S21 ?_ | refine S22 ?_ | refine S23 ?_ | refine S24 ?_ | refine S25 ?_ | refine S26 ?_ | refine S27 ?_ | refine S29 ?_ | refine S33 ?_ | refine S46 ?_ | refine S65 ?_ | refine S71 ?_ | refine S72 ?_ | refine S75 ?_)
    refine CW.loopS (fun i : Nat × List Int => i.1 ≤ c.length ∧ i.2.length = N ∧ ∀ x, x < N → (of x < k ∨ ∃ j, j < i.1 ∧ c.getD j 0 = (x : Int)) → i.2.getD x 0 = (of x : Int))
      (fun i => [(0, pint N), (1, pli w), (7, .lst true 1 K (ms.map plt)), (8, .ref 0 0 1 N), (9, .ref 2 0 1 K), (36, .lst true 1 K (ms.map plt)), (37, pint K), (38, pint k), (10, pint k), (49, plt c), (50, pint c.length), (51, pint i.1)])
      (fun i hp => RowsI K (k + 1) 2 tk2 (fun _ => rowF K (fun _ => 0)) hp ∧ hp.blk 0 = some (ints i.2)) (fun i => c.length - i.1) (0, zs)
      ⟨⟨Nat.zero_le _, hzl, fun x hx h => hzs x hx (by
        rcases h with h | ⟨j, hj, _⟩
        · exact h
        · exact absurd hj (Nat.not_lt_zero _))⟩, SLx, RY, hBY⟩ ?_
    clear RY hBY hzs hzl
    clear zs
    rintro ⟨l, zs⟩ t hp ⟨hl, hzl, hzs⟩ ⟨R, hB⟩
    simp only at hl hzl hzs R hB
    first | simp only [updS] | simp only [updL, Nat.reduceAdd]
    by_cases hl2 : l < c.length
    · obtain ⟨z, hz1, hz2, hz3⟩ := hcm l hl2
      have hb : 0 ≤ c.getD l 0 ∧ c.getD l 0 < N := by omega
      have hzt : (c.getD l 0).toNat = z := by omega
      repeat (first | refine S0 ?_ | refine S1 ?_ | refine S2 ?_ | refine S3 ?_ | refine S4 ?_ | refine S5 ?_ | refine S6 ?_ | refine S7 ?_ | refine S8 ?_ | refine S10 ?_ | refine S11 ?_ | refine S13 ?_ | refine S15 ?_ | refine S16 ?_ | refine S19 ?_ | refine S20 ?_ | refine S21 ?_ | refine S22 ?_ | refine S23 ?_ | refine S24 ?_ | refine S25 ?_ | refine S26 ?_ | refine S27 ?_ | refine S29 ?_ | refine S33 ?_ | refine S46 ?_ | refine S65 ?_ | refine S71 ?_ | refine S72 ?_ | refine S75 ?_)
      refine ⟨(l + 1, zs.set (c.getD l 0).toNat (k : Int)), ⟨hl2, by simp [hzl], fun x hx h => ?_⟩, SLx, ⟨R.keep (Nat.le_refl _) (fun t ht => HP.set_other _ _ ?_), HBx⟩, by simp only; omega⟩
      · simp only
        rw [hzt]
        by_cases e : x = z
        · subst e
          rw [getD_lt 0 (by simp; omega), List.getElem_set_self, hz3]
        · rw [getD_lt 0 (by simp; omega), List.getElem_set_ne (by omega), ← getD_lt 0 (by omega)]
          refine hzs x hx ?_
          rcases h with h | ⟨j, hj, hj2⟩
          · exact .inl h
          · refine .inr ⟨j, ?_, hj2⟩
            simp only at hj
            by_cases e2 : j = l
            · subst e2; omega
            · omega
      · rcases ht with rfl | ⟨j, hj, rfl⟩
        · decide
        · exact htk2 j hj
    · obtain rfl : l = c.length := by omega
      repeat (first | refine S0 ?_ | refine S1 ?_ | refine S2 ?_ | refine S3 ?_ | refine S4 ?_ | refine S5 ?_ | refine S6 ?_ | refine S7 ?_ | refine S8 ?_ | refine S10 ?_ | refine S11 ?_ | refine S13 ?_ | refine S15 ?_ | refine S16 ?_ | refine S19 ?_ | refine S20 ?_ | refine S21 ?_ | refine S22 ?_ | refine S23 ?_ | refine S24 ?_ | refine S25 ?_ | refine S26 ?_ | refine S27 ?_ | refine S29 ?_ | refine S33 ?_ | refine S46 ?_ | refine S65 ?_ | refine S71 ?_ | refine S72 ?_ | refine S75 ?_)
      refine ⟨(k + 1, tk2, zs), ⟨hk2, hzl, fun x hx h => hzs x hx ?_, htk2⟩, SLx, ⟨R, hB⟩, by simp only; omega⟩
      simp only at h
      by_cases e : of x < k
      · exact .inl e
      · obtain ⟨j, hj, hj2⟩ := List.getElem_of_mem ((hcm2 (x : Int)).2 ⟨x, rfl, hx, by omega⟩)
        exact .inr ⟨j, hj, by rw [getD_lt 0 hj]; exact hj2⟩
  · obtain rfl : k = K := by omega
    obtain rfl : zs = tabN N of := list_eq_getD (by rw [hzl, tab_len]) (fun j hj => by rw [hzs j (by omega) (hof j (by omega)), tabN_get (by omega)])
    repeat (first | refine S0 ?_ | refine S1 ?_ | refine S2 ?_ | refine S3 ?_ | refine S4 ?_ | refine S5 ?_ | refine S6 ?_ | refine S7 ?_ | refine S8 ?_ | refine S10 ?_ | refine S11 ?_ | refine S13 ?_ | refine S15 ?_ | refine S16 ?_ | refine S19 ?_ | refine S20 ?_ | refine S21 ?_ | refine S22 ?_ | refine S23 ?_ | refine S24 ?_ | refine S25 ?_ | refine S26 ?_ | refine S27 ?_ | refine S29 ?_ | refine S33 ?_ | refine S46 ?_ | refine S65 ?_ | refine S71 ?_ | refine S72 ?_ | refine S75 ?_)
    refine Scallo (args := [pint N]) hI ?_
    repeat (first | refine S0 ?_ | refine S1 ?_ | refine S2 ?_ | refine S3 ?_ | refine S4 ?_ | refine S5 ?_ | refine S6 ?_ | refine S7 ?_ | refine S8 ?_ | refine S10 ?_ | refine S11 ?_ | refine S13 ?_ | refine S15 ?_ | refine S16 ?_ | refine S19 ?_ | refine S20 ?_ | refine S21 ?_ | refine S22 ?_ | refine S23 ?_ | refine S24 ?_ | refine S25 ?_ | refine S26 ?_ | refine S27 ?_ | refine S29 ?_ | refine S33 ?_ | refine S46 ?_ | refine S65 ?_ | refine S71 ?_ | refine S72 ?_ | refine S75 ?_)
    obtain ⟨ta, hta⟩ : ∃ ta, ta = hp.tok false := ⟨_, rfl⟩
    have htan : ta = 2 * hp.next := by rw [hta, HP.tokF]
    obtain ⟨X, hX⟩ : ∃ X, X = hp.add false (ints (tabN N id)) := ⟨_, rfl⟩
    have hXT : X.blk ta = some (ints (tabN N (fAt w 0))) := by rw [hX, hta]; exact HP.add_same _ _ _
    have hXb : ∀ t, t ≠ ta → X.blk t = hp.blk t := fun t ht => by rw [hX]; exact HP.add_other _ _ _ (by rw [← hta]; exact ht)
    have hXn : X.next = hp.next + 1 := by rw [hX]; rfl
    have l0 := R.ltT
    have hne : ∀ j, j < k → tk j ≠ ta := fun j hj => by have := R.lt j hj; omega
    have RX : RowsI k k 2 tk (fun p => rowF k (crS of w 0 p)) X := (R.keep (by omega) (fun t ht => hXb t (by
      rcases ht with rfl | ⟨j, hj, rfl⟩
      · omega
      · exact hne j hj))).cong (fun j hj => rfl)
    have h0X : X.blk 0 = some (ints (tabN N of)) := (hXb 0 (by omega)).trans hB
    rw [← hX, ← hta]
    have hta0 : ta ≠ 0 ∧ ta ≠ 2 := by omega
    clear hX hXb hXn hta htan R hB l0
    refine CW.loopS (fun j : Nat => j ≤ w.length) (fun j => [(0, pint N), (1, pli w), (8, .ref 0 0 1 N), (9, .ref 2 0 1 k), (14, .ref ta 0 1 N), (63, pli w), (64, pint w.length), (65, pint j)])
      (fun j hp => RowsI k k 2 tk (fun p => rowF k (crS of w j p)) hp ∧ hp.blk 0 = some (ints (tabN N of)) ∧ hp.blk ta = some (ints (tabN N (fAt w j)))) (fun j => w.length - j) 0 ⟨Nat.zero_le _, SLx, RX, h0X, hXT⟩ ?_
    clear RX h0X hXT X hp t
    rintro j t hp hj ⟨R, hB0, hBa⟩
    first | simp only [updS] | simp only [updL, Nat.reduceAdd]
    by_cases hj2 : j < w.length
    · obtain ⟨l1, l2, l3⟩ := hw.ltr hj2
      have hx := abs_let (hw.lt j hj2) (by omega)
      have hX := bindex_s (w.getD j 0) (by omega)
      rw [← l3] at hX
      have hsw := swap_tab (n := N) (F := fAt w j) ⟨l1, l2⟩
      have hfa := hw.f_lt j hj (ltr (w.getD j 0) - 1) (by omega)
      have hfb := hw.f_lt j hj (ltr (w.getD j 0)) (by omega)
      have ga : (tabN N (fAt w j)).getD ((ltr (w.getD j 0) : Int) - 1).toNat 0 = (fAt w j (ltr (w.getD j 0) - 1) : Int) := by rw [show ((ltr (w.getD j 0) : Int) - 1).toNat = ltr (w.getD j 0) - 1 by omega, tabN_get (by omega)]
      have gb : (tabN N (fAt w j)).getD (ltr (w.getD j 0)) 0 = (fAt w j (ltr (w.getD j 0)) : Int) := tabN_get (by omega)
      have hcA : crA of w j = of (fAt w j (ltr (w.getD j 0) - 1)) := rfl
      have hcB : crB of w j = of (fAt w j (ltr (w.getD j 0))) := rfl
      have oa := hof _ hfa
      have ob := hof _ hfb
      generalize hg : ltr (w.getD j 0) = i at *
      have hl := tab_len N (fAt w j)
      have hl2 := tab_len N of
      repeat (first | refine S0 ?_ | refine S1 ?_ | refine S2 ?_ | refine S3 ?_ | refine S4 ?_ | refine S5 ?_ | refine S6 ?_ | refine S7 ?_ | refine S8 ?_ | refine S10 ?_ | refine S11 ?_ | refine S13 ?_ | refine S15 ?_ | refine S16 ?_ | refine S19 ?_ | refine S20 ?_ | refine S21 ?_ | refine S22 ?_ | refine S23 ?_ | refine S24 ?_ | refine S25 ?_ | refine S26 ?_ | refine S27 ?_ | refine S29 ?_ | refine S33 ?_ | refine S46 ?_ | refine S65 ?_ | refine S71 ?_ | refine S72 ?_ | refine S75 ?_)
      refine Scall (args := [pint (w.getD j 0)]) hX ?_
      repeat (first | refine S0 ?_ | refine S1 ?_ | refine S2 ?_ | refine S3 ?_ | refine S4 ?_ | refine S5 ?_ | refine S6 ?_ | refine S7 ?_ | refine S8 ?_ | refine S10 ?_ | refine S11 ?_ | refine S13 ?_ | refine S15 ?_ | refine S16 ?_ | refine S19 ?_ | refine S20 ?_ | refine S21 ?_ | refine S22 ?_ | refine S23 ?_ | refine S24 ?_ | refine S25 ?_ | refine S26 ?_ | refine S27 ?_ | refine S29 ?_ | refine S33 ?_ | refine S46 ?_ | refine S65 ?_ | refine S71 ?_ | refine S72 ?_ | refine S75 ?_)
      have ga2 := tabN_get (n := N) (F := of) hfa
      have gb2 := tabN_get (n := N) (F := of) hfb
      simp only [Int.toNat_natCast, Nat.zero_add, Nat.mul_one] at ga gb ga2 gb2 ⊢
      simp only [ga, gb, ga2, gb2, Int.toNat_natCast]
      generalize of (fAt w j (i - 1)) = a at *
      generalize of (fAt w j i) = b at *
      have b0 := R.out
      have hra : hp.blk (tk a) = some (ints (rowF k (crS of w j a))) := R.row a oa
      have hrl := rowF_len k (crS of w j a)
      have hrv : (rowF k (crS of w j a)).getD b 0 = crS of w j a b := rowF_get ob
      have hbd := crS_bd of w j a b
      have hwl := hw.len
      have hq : (w.getD j 0).tdiv (i : Int) = sgnX (w.getD j 0) := by
        unfold sgnX
        rcases hx.2.2.1 with e | e
        · rw [if_pos (by omega), show w.getD j 0 = (i : Int) by omega]
          exact Int.tdiv_self (by omega)
        · rw [if_neg (by omega), show w.getD j 0 = -(i : Int) by omega, Int.neg_tdiv, Int.tdiv_self (by omega)]
      have hsb : -1 ≤ sgnX (w.getD j 0) ∧ sgnX (w.getD j 0) ≤ 1 := by unfold sgnX; split <;> omega
      repeat (first | refine S0 ?_ | refine S1 ?_ | refine S2 ?_ | refine S3 ?_ | refine S4 ?_ | refine S5 ?_ | refine S6 ?_ | refine S7 ?_ | refine S8 ?_ | refine S10 ?_ | refine S11 ?_ | refine S13 ?_ | refine S15 ?_ | refine S16 ?_ | refine S19 ?_ | refine S20 ?_ | refine S21 ?_ | refine S22 ?_ | refine S23 ?_ | refine S24 ?_ | refine S25 ?_ | refine S26 ?_ | refine S27 ?_ | refine S29 ?_ | refine S33 ?_ | refine S46 ?_ | refine S65 ?_ | refine S71 ?_ | refine S72 ?_ | refine S75 ?_)
      rw [show 0 + (a : Int).toNat * 1 = a by simp]
      refine AW.ldm EVx (by first | exact Or.inl rfl | exact Or.inr ⟨rfl, HP.tok_even _⟩ | exact Or.inr (Or.inl ⟨rfl, HP.tok_even _⟩) | exact Or.inr (Or.inr ⟨rfl, HP.tok_odd _⟩) | exact Or.inr (Or.inl rfl) | exact Or.inr (Or.inr (Or.inl rfl)) | exact Or.inr (Or.inr (Or.inr (Or.inl ⟨rfl, HP.tok_odd _⟩))) | exact Or.inr (Or.inr (Or.inr (Or.inr ⟨rfl, HP.tok_even _⟩))) | exact Or.inr (Or.inr (Or.inr (Or.inr ⟨rfl, by assumption⟩))) | exact Or.inr ⟨rfl, by assumption⟩ | exact Or.inr (Or.inl ⟨rfl, by assumption⟩) | exact Or.inr (Or.inr ⟨rfl, by assumption⟩) | exact Or.inr (Or.inr (Or.inr (Or.inl ⟨rfl, by assumption⟩))) | exact Or.inr (Or.inr (Or.inl ⟨rfl, HP.tok_odd _⟩)) | exact Or.inr (Or.inr (Or.inl ⟨rfl, by assumption⟩)) | exact Or.inr (Or.inr (Or.inr rfl)) | exact Or.inr (Or.inr rfl) | exact Or.inr rfl) rfl b0 (outI_get oa oa) ?_
      rw [rowF_len]
      repeat (first | refine S0 ?_ | refine S1 ?_ | refine S2 ?_ | refine S3 ?_ | refine S4 ?_ | refine S5 ?_ | refine S6 ?_ | refine S7 ?_ | refine S8 ?_ | refine S10 ?_ | refine S11 ?_ | refine S13 ?_ | refine S15 ?_ | refine S16 ?_ | refine S19 ?_ | refine S20 ?_ | refine S21 ?_ | refine S22 ?_ | refine S23 ?_ | refine S24 ?_ | refine S25 ?_ | refine S26 ?_ | refine S27 ?_ | refine S29 ?_ | refine S33 ?_ | refine S46 ?_ | refine S65 ?_ | refine S71 ?_ | refine S72 ?_ | refine S75 ?_)
      rw [hrv, hq, crS_row_a hcA hcB ob]
      have RY := R.turn oa (r := rowF k (crS of w (j + 1) a)) (by rw [rowF_len, rowF_len])
      have hY0 : (hp.set (tk a) (ints (rowF k (crS of w (j + 1) a)))).blk 0 = some (ints (tabN N of)) := (HP.set_other _ _ (fun e => htk a oa e.symm)).trans hB0
      have hYa : (hp.set (tk a) (ints (rowF k (crS of w (j + 1) a)))).blk ta = some (ints (tabN N (fAt w j))) := (HP.set_other _ _ (fun e => hne a oa e.symm)).trans hBa
      generalize hp.set (tk a) (ints (rowF k (crS of w (j + 1) a))) = Y at *
      have hfin : ∀ (Z : HP) (P Q : List Int), RowsI k k 2 tk (fun p => rowF k (crS of w (j + 1) p)) Z → Z.blk 0 = some (ints (tabN N of)) → Q = tabN N (fAt w (j + 1)) →
          RowsI k k 2 tk (fun p => rowF k (crS of w (j + 1) p)) ((Z.set ta (ints P)).set ta (ints Q)) ∧ ((Z.set ta (ints P)).set ta (ints Q)).blk 0 = some (ints (tabN N of)) ∧ ((Z.set ta (ints P)).set ta (ints Q)).blk ta = some (ints (tabN N (fAt w (j + 1)))) := fun Z P Q H H0 e =>
        ⟨H.keep (Nat.le_refl _) (fun t ht => by
          have ht' : t ≠ ta := by
            rcases ht with rfl | ⟨x, hx, rfl⟩
            · exact fun e => hta0.2 e.symm
            · exact hne x hx
          exact (HP.set_other _ _ ht').trans (HP.set_other _ _ ht')), (HP.set_other _ _ hta0.1.symm).trans ((HP.set_other _ _ hta0.1.symm).trans H0), by rw [e]; exact HP.set_same _ _ _⟩
      have hsw2 : ((tabN N (fAt w j)).set (i - 1) ((tabN N (fAt w j)).getD i 0)).set i ((tabN N (fAt w j)).getD (i - 1) 0) = tabN N (fAt w (j + 1)) := by rw [hsw, ← hg]; rfl
      by_cases hab : a = b
      · have RZ : RowsI k k 2 tk (fun p => rowF k (crS of w (j + 1) p)) Y := RY.cong (fun p hp => by
          by_cases e : p = a
          · rw [e, ovr_same]
          · rw [ovr_ne _ _ e]; exact crS_row_o hcA hcB e (by omega))
        have hab' : (a : Int) = (b : Int) := by omega
        repeat (first | refine S0 ?_ | refine S1 ?_ | refine S2 ?_ | refine S3 ?_ | refine S4 ?_ | refine S5 ?_ | refine S6 ?_ | refine S7 ?_ | refine S8 ?_ | refine S10 ?_ | refine S11 ?_ | refine S13 ?_ | refine S15 ?_ | refine S16 ?_ | refine S19 ?_ | refine S20 ?_ | refine S21 ?_ | refine S22 ?_ | refine S23 ?_ | refine S24 ?_ | refine S25 ?_ | refine S26 ?_ | refine S27 ?_ | refine S29 ?_ | refine S33 ?_ | refine S46 ?_ | refine S65 ?_ | refine S71 ?_ | refine S72 ?_ | refine S75 ?_)
        simp only [Nat.zero_add, Nat.mul_one, Int.toNat_natCast, show ((i : Int) - 1).toNat = i - 1 by omega]
        exact ⟨j + 1, by omega, SLx, hfin _ _ _ RZ hY0 hsw2, by omega⟩
      · have hab' : (a : Int) ≠ (b : Int) := by omega
        have c0 := RY.out
        have hrb : Y.blk (tk b) = some (ints (rowF k (crS of w j b))) := by
          have := RY.row b ob
          rwa [ovr_ne _ _ (fun e => hab e.symm)] at this
        have hrl2 := rowF_len k (crS of w j b)
        have hrv2 : (rowF k (crS of w j b)).getD a 0 = crS of w j b a := rowF_get oa
        have hbd2 := crS_bd of w j b a
        repeat (first | refine S0 ?_ | refine S1 ?_ | refine S2 ?_ | refine S3 ?_ | refine S4 ?_ | refine S5 ?_ | refine S6 ?_ | refine S7 ?_ | refine S8 ?_ | refine S10 ?_ | refine S11 ?_ | refine S13 ?_ | refine S15 ?_ | refine S16 ?_ | refine S19 ?_ | refine S20 ?_ | refine S21 ?_ | refine S22 ?_ | refine S23 ?_ | refine S24 ?_ | refine S25 ?_ | refine S26 ?_ | refine S27 ?_ | refine S29 ?_ | refine S33 ?_ | refine S46 ?_ | refine S65 ?_ | refine S71 ?_ | refine S72 ?_ | refine S75 ?_)
        rw [show 0 + (b : Int).toNat * 1 = b by simp]
        refine AW.ldm EVx (by first | exact Or.inl rfl | exact Or.inr ⟨rfl, HP.tok_even _⟩ | exact Or.inr (Or.inl ⟨rfl, HP.tok_even _⟩) | exact Or.inr (Or.inr ⟨rfl, HP.tok_odd _⟩) | exact Or.inr (Or.inl rfl) | exact Or.inr (Or.inr (Or.inl rfl)) | exact Or.inr (Or.inr (Or.inr (Or.inl ⟨rfl, HP.tok_odd _⟩))) | exact Or.inr (Or.inr (Or.inr (Or.inr ⟨rfl, HP.tok_even _⟩))) | exact Or.inr (Or.inr (Or.inr (Or.inr ⟨rfl, by assumption⟩))) | exact Or.inr ⟨rfl, by assumption⟩ | exact Or.inr (Or.inl ⟨rfl, by assumption⟩) | exact Or.inr (Or.inr ⟨rfl, by assumption⟩) | exact Or.inr (Or.inr (Or.inr (Or.inl ⟨rfl, by assumption⟩))) | exact Or.inr (Or.inr (Or.inl ⟨rfl, HP.tok_odd _⟩)) | exact Or.inr (Or.inr (Or.inl ⟨rfl, by assumption⟩)) | exact Or.inr (Or.inr (Or.inr rfl)) | exact Or.inr (Or.inr rfl) | exact Or.inr rfl) rfl c0 (outI_get ob ob) ?_
        rw [ovr_ne _ _ (fun e => hab e.symm), rowF_len]
        have nb := hne b ob
        have nb2 := nb.symm
        iterate 8 (first | refine S0 ?_ | refine S1 ?_ | refine S2 ?_ | refine S3 ?_ | refine S4 ?_ | refine S5 ?_ | refine S6 ?_ | refine S7 ?_ | refine S8 ?_ | refine S10 ?_ | refine S11 ?_ | refine S13 ?_ | refine S15 ?_ | refine S16 ?_ | refine S19 ?_ | refine S20 ?_ | refine S21 ?_ | refine S22 ?_ | refine S23 ?_ | refine S24 ?_ | refine S25 ?_ | refine S26 ?_ | refine S27 ?_ | refine S29 ?_ | refine S33 ?_ | refine S46 ?_ | refine S65 ?_ | refine S71 ?_ | refine S72 ?_ | refine S75 ?_)
        rw [hrv2, hq, show 0 + (a : Int).toNat * 1 = a by simp]
        refine AW.stR (r := ints (rowF k (crS of w (j + 1) b))) EVx (by first | exact Or.inl rfl | exact Or.inr ⟨rfl, HP.tok_even _⟩ | exact Or.inr (Or.inl ⟨rfl, HP.tok_even _⟩) | exact Or.inr (Or.inr ⟨rfl, HP.tok_odd _⟩) | exact Or.inr (Or.inl rfl) | exact Or.inr (Or.inr (Or.inl rfl)) | exact Or.inr (Or.inr (Or.inr (Or.inl ⟨rfl, HP.tok_odd _⟩))) | exact Or.inr (Or.inr (Or.inr (Or.inr ⟨rfl, HP.tok_even _⟩))) | exact Or.inr (Or.inr (Or.inr (Or.inr ⟨rfl, by assumption⟩))) | exact Or.inr ⟨rfl, by assumption⟩ | exact Or.inr (Or.inl ⟨rfl, by assumption⟩) | exact Or.inr (Or.inr ⟨rfl, by assumption⟩) | exact Or.inr (Or.inr (Or.inr (Or.inl ⟨rfl, by assumption⟩))) | exact Or.inr (Or.inr (Or.inl ⟨rfl, HP.tok_odd _⟩)) | exact Or.inr (Or.inr (Or.inl ⟨rfl, by assumption⟩)) | exact Or.inr (Or.inr (Or.inr rfl)) | exact Or.inr (Or.inr rfl) | exact Or.inr rfl) EVx rfl hrb (by rw [ints_length, rowF_len]; exact oa) (by first | rfl | (simp only [PV.one, pint, pfr]; done)) (by rw [← crS_row_b hcA hcB oa hab, ← ints_set]) ?_
        have RZ : RowsI k k 2 tk (fun p => rowF k (crS of w (j + 1) p)) (Y.set (tk b) (ints (rowF k (crS of w (j + 1) b)))) := (RY.turn ob (r := rowF k (crS of w (j + 1) b)) (by rw [ovr_ne _ _ (fun e => hab e.symm), rowF_len, rowF_len])).cong (fun p hp => by
          by_cases e : p = b
          · rw [e, ovr_same]
          · rw [ovr_ne _ _ e]
            by_cases e2 : p = a
            · rw [e2, ovr_same]
            · rw [ovr_ne _ _ e2]; exact crS_row_o hcA hcB e2 e)
        have hZ0 : (Y.set (tk b) (ints (rowF k (crS of w (j + 1) b)))).blk 0 = some (ints (tabN N of)) := (HP.set_other _ _ (fun e => htk b ob e.symm)).trans hY0
        have hZa : (Y.set (tk b) (ints (rowF k (crS of w (j + 1) b)))).blk ta = some (ints (tabN N (fAt w j))) := (HP.set_other _ _ nb2).trans hYa
        generalize Y.set (tk b) (ints (rowF k (crS of w (j + 1) b))) = Z at *
        repeat (first | refine S0 ?_ | refine S1 ?_ | refine S2 ?_ | refine S3 ?_ | refine S4 ?_ | refine S5 ?_ | refine S6 ?_ | refine S7 ?_ | refine S8 ?_ | refine S10 ?_ | refine S11 ?_ | refine S13 ?_ | refine S15 ?_ | refine S16 ?_ | refine S19 ?_ | refine S20 ?_ | refine S21 ?_ | refine S22 ?_ | refine S23 ?_ | refine S24 ?_ | refine S25 ?_ | refine S26 ?_ | refine S27 ?_ | refine S29 ?_ | refine S33 ?_ | refine S46 ?_ | refine S65 ?_ | refine S71 ?_ | refine S72 ?_ | refine S75 ?_)
        simp only [Nat.zero_add, Nat.mul_one, Int.toNat_natCast, show ((i : Int) - 1).toNat = i - 1 by omega]
        exact ⟨j + 1, by omega, SLx, hfin _ _ _ RZ hZ0 hsw2, by omega⟩
    · obtain rfl : j = w.length := by omega
      repeat (first | refine S0 ?_ | refine S1 ?_ | refine S2 ?_ | refine S3 ?_ | refine S4 ?_ | refine S5 ?_ | refine S6 ?_ | refine S7 ?_ | refine S8 ?_ | refine S10 ?_ | refine S11 ?_ | refine S13 ?_ | refine S15 ?_ | refine S16 ?_ | refine S19 ?_ | refine S20 ?_ | refine S21 ?_ | refine S22 ?_ | refine S23 ?_ | refine S24 ?_ | refine S25 ?_ | refine S26 ?_ | refine S27 ?_ | refine S29 ?_ | refine S33 ?_ | refine S46 ?_ | refine S65 ?_ | refine S71 ?_ | refine S72 ?_ | refine S75 ?_)
      have R0 : RowsI k k 2 tk (fun p => rowF k (hlv of w 0 0 p)) hp := R.cong (fun p _ => rowF_ext (fun q _ => by unfold hlv; rw [if_neg (by omega)]))
      refine CW.loopS (fun p : Nat => p ≤ k) (fun p => [(9, .ref 2 0 1 k), (131, pint k), (132, pint p)]) (fun p hp => RowsI k k 2 tk (fun r => rowF k (hlv of w p 0 r)) hp) (fun p => k - p) 0 ⟨Nat.zero_le _, SLx, R0⟩ ?_
      clear R0 R hB0 hBa hp t
      rintro p t hp hpk R
      first | simp only [updS] | simp only [updL, Nat.reduceAdd]
      by_cases hp2 : p < k
      · repeat (first | refine S0 ?_ | refine S1 ?_ | refine S2 ?_ | refine S3 ?_ | refine S4 ?_ | refine S5 ?_ | refine S6 ?_ | refine S7 ?_ | refine S8 ?_ | refine S10 ?_ | refine S11 ?_ | refine S13 ?_ | refine S15 ?_ | refine S16 ?_ | refine S19 ?_ | refine S20 ?_ | refine S21 ?_ | refine S22 ?_ | refine S23 ?_ | refine S24 ?_ | refine S25 ?_ | refine S26 ?_ | refine S27 ?_ | refine S29 ?_ | refine S33 ?_ | refine S46 ?_ | refine S65 ?_ | refine S71 ?_ | refine S72 ?_ | refine S75 ?_)
        refine CW.loopS (fun q : Nat => q ≤ k) (fun q => [(9, .ref 2 0 1 k), (131, pint k), (132, pint p), (20, pint p), (136, pint k), (137, pint q)]) (fun q hp => RowsI k k 2 tk (fun r => rowF k (hlv of w p q r)) hp) (fun q => k - q) 0 ⟨Nat.zero_le _, SLx, R⟩ ?_
        clear R hp t
        rintro q t hp hqk R
        first | simp only [updS] | simp only [updL, Nat.reduceAdd]
        by_cases hq2 : q < k
        · by_cases hpq : p = q
          · have hpq' : (p : Int) = (q : Int) := by omega
            repeat (first | refine S0 ?_ | refine S1 ?_ | refine S2 ?_ | refine S3 ?_ | refine S4 ?_ | refine S5 ?_ | refine S6 ?_ | refine S7 ?_ | refine S8 ?_ | refine S10 ?_ | refine S11 ?_ | refine S13 ?_ | refine S15 ?_ | refine S16 ?_ | refine S19 ?_ | refine S20 ?_ | refine S21 ?_ | refine S22 ?_ | refine S23 ?_ | refine S24 ?_ | refine S25 ?_ | refine S26 ?_ | refine S27 ?_ | refine S29 ?_ | refine S33 ?_ | refine S46 ?_ | refine S65 ?_ | refine S71 ?_ | refine S72 ?_ | refine S75 ?_)
            exact ⟨q + 1, hq2, SLx, R.cong (fun r _ => rowF_ext (fun c _ => hlv_diag hpq)), by omega⟩
          · have hpq' : (p : Int) ≠ (q : Int) := by omega
            have b0 := R.out
            have hrp : hp.blk (tk p) = some (ints (rowF k (hlv of w p q p))) := R.row p hp2
            have hrl := rowF_len k (hlv of w p q p)
            have hrv : (rowF k (hlv of w p q p)).getD q 0 = crS of w w.length p q := by rw [rowF_get hq2]; unfold hlv; rw [if_neg (by omega)]
            have hbd := crS_bd of w w.length p q
            have hwl := hw.len
            repeat (first | refine S0 ?_ | refine S1 ?_ | refine S2 ?_ | refine S3 ?_ | refine S4 ?_ | refine S5 ?_ | refine S6 ?_ | refine S7 ?_ | refine S8 ?_ | refine S10 ?_ | refine S11 ?_ | refine S13 ?_ | refine S15 ?_ | refine S16 ?_ | refine S19 ?_ | refine S20 ?_ | refine S21 ?_ | refine S22 ?_ | refine S23 ?_ | refine S24 ?_ | refine S25 ?_ | refine S26 ?_ | refine S27 ?_ | refine S29 ?_ | refine S33 ?_ | refine S46 ?_ | refine S65 ?_ | refine S71 ?_ | refine S72 ?_ | refine S75 ?_)
            rw [show 0 + (p : Int).toNat * 1 = p by simp]
            refine AW.ldm EVx (by first | exact Or.inl rfl | exact Or.inr ⟨rfl, HP.tok_even _⟩ | exact Or.inr (Or.inl ⟨rfl, HP.tok_even _⟩) | exact Or.inr (Or.inr ⟨rfl, HP.tok_odd _⟩) | exact Or.inr (Or.inl rfl) | exact Or.inr (Or.inr (Or.inl rfl)) | exact Or.inr (Or.inr (Or.inr (Or.inl ⟨rfl, HP.tok_odd _⟩))) | exact Or.inr (Or.inr (Or.inr (Or.inr ⟨rfl, HP.tok_even _⟩))) | exact Or.inr (Or.inr (Or.inr (Or.inr ⟨rfl, by assumption⟩))) | exact Or.inr ⟨rfl, by assumption⟩ | exact Or.inr (Or.inl ⟨rfl, by assumption⟩) | exact Or.inr (Or.inr ⟨rfl, by assumption⟩) | exact Or.inr (Or.inr (Or.inr (Or.inl ⟨rfl, by assumption⟩))) | exact Or.inr (Or.inr (Or.inl ⟨rfl, HP.tok_odd _⟩)) | exact Or.inr (Or.inr (Or.inl ⟨rfl, by assumption⟩)) | exact Or.inr (Or.inr (Or.inr rfl)) | exact Or.inr (Or.inr rfl) | exact Or.inr rfl) rfl b0 (outI_get hp2 hp2) ?_
            rw [rowF_len]
            repeat (first | refine S0 ?_ | refine S1 ?_ | refine S2 ?_ | refine S3 ?_ | refine S4 ?_ | refine S5 ?_ | refine S6 ?_ | refine S7 ?_ | refine S8 ?_ | refine S10 ?_ | refine S11 ?_ | refine S13 ?_ | refine S15 ?_ | refine S16 ?_ | refine S19 ?_ | refine S20 ?_ | refine S21 ?_ | refine S22 ?_ | refine S23 ?_ | refine S24 ?_ | refine S25 ?_ | refine S26 ?_ | refine S27 ?_ | refine S29 ?_ | refine S33 ?_ | refine S46 ?_ | refine S65 ?_ | refine S71 ?_ | refine S72 ?_ | refine S75 ?_)
            rw [hrv, hlv_row hq2 hpq]
            exact ⟨q + 1, hq2, SLx, (R.turn hp2 (r := rowF k (hlv of w p (q + 1) p)) (by rw [rowF_len, rowF_len])).cong (fun r _ => by
              by_cases e : r = p
              · rw [e, ovr_same]
              · rw [ovr_ne _ _ e]; exact rowF_ext (fun c _ => hlv_oth e)), by omega⟩
        · obtain rfl : q = k := by omega
          repeat (first | refine S0 ?_ | refine S1 ?_ | refine S2 ?_ | refine S3 ?_ | refine S4 ?_ | refine S5 ?_ | refine S6 ?_ | refine S7 ?_ | refine S8 ?_ | refine S10 ?_ | refine S11 ?_ | refine S13 ?_ | refine S15 ?_ | refine S16 ?_ | refine S19 ?_ | refine S20 ?_ | refine S21 ?_ | refine S22 ?_ | refine S23 ?_ | refine S24 ?_ | refine S25 ?_ | refine S26 ?_ | refine S27 ?_ | refine S29 ?_ | refine S33 ?_ | refine S46 ?_ | refine S65 ?_ | refine S71 ?_ | refine S72 ?_ | refine S75 ?_)
          exact ⟨p + 1, hp2, SLx, R.cong (fun r _ => rowF_ext (fun c hc => hlv_next hc)), by omega⟩
      · obtain rfl : p = k := by omega
        refine CW.frzR R (fun h' hb' hf' => ?_)
        have e : ((List.range p).map fun r => rowF p (hlv of w p 0 r)) = (List.range p).map fun r => rowF p (lnk of w r) := List.map_congr_left (fun r hr => rowF_ext (fun c _ => by unfold hlv; rw [if_pos (.inl (List.mem_range.1 hr))]))
        rw [e] at hb'
        refine CW.freeze 9 (tk := 2) (off := 0) (sz := 1) (m := p) (v := plls ((List.range p).map fun r => rowF p (lnk of w r))) rfl hb' (by simp) ?_ ?_
        · unfold plls
          rw [List.drop_zero, Nat.mul_one, List.length_map, List.length_range, List.take_of_length_le (by simp)]
        repeat (first | refine S0 ?_ | refine S1 ?_ | refine S2 ?_ | refine S3 ?_ | refine S4 ?_ | refine S5 ?_ | refine S6 ?_ | refine S7 ?_ | refine S8 ?_ | refine S10 ?_ | refine S11 ?_ | refine S13 ?_ | refine S15 ?_ | refine S16 ?_ | refine S19 ?_ | refine S20 ?_ | refine S21 ?_ | refine S22 ?_ | refine S23 ?_ | refine S24 ?_ | refine S25 ?_ | refine S26 ?_ | refine S27 ?_ | refine S29 ?_ | refine S33 ?_ | refine S46 ?_ | refine S65 ?_ | refine S71 ?_ | refine S72 ?_ | refine S75 ?_)
        exact ⟨.inr rfl, Fz.pair (.cl (plls_cl _)) (.cl rfl)⟩
end Go.Proofs.Ytgjfpmjllpgadaa
