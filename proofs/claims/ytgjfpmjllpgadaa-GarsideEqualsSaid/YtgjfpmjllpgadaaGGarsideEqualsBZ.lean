/- Callees with a result that is not fixed by the arguments, but frozen; garside.formOf as such; garside.Equal; timbref1.Equals. No condition of its own. -/
import Derived.Test.YtgjfpmjllpgadaaGGarsideEqualsBP
import Derived.Test.YtgjfpmjllpgadaaGGarsideEqualsBY
set_option linter.unusedVariables false
set_option linter.unusedSimpArgs false
namespace Go.Proofs.Ytgjfpmjllpgadaa
open Go.RowKit

/-- a callee that reads only; its result is one of those that R allows -/
def SCx (P : Program) (f : FuncId) (args : List PV) (R : PV → Prop) : Prop :=
  Callable P f ∧ ∀ (Z : Nat → Prop) (w : World) (vs : Array Value), (∀ b, Z b → b < w.heap.size) → vs.size = args.length →
    (∀ i, i < args.length → V (fun _ => none) Z w (args.getD i .junk) (vs.getD i undef)) →
    Calls P f vs w fun e w' => ∃ u r, e = .returned u ∧ R r ∧ V (fun _ => none) Z w' r u ∧ Below w.heap.size w w'
theorem SCx.of_e {P : Program} {f : FuncId} {args : List PV} {Q : PV → HP → Prop} {R : PV → Prop} (hs : SChE P f args H0 Q) (hQ : ∀ r h', Q r h' → ∃ r', Fz h' r r' ∧ R r') : SCx P f args R := by
  refine ⟨hs.1, fun Z w vs hz hl hv => ?_⟩
  have H : HRel w Z (fun _ => none) H0 w := ⟨Below.refl _ _, hz, fun t cs h => (by cases h), fun t t' cs cs' b o o' h => (by cases h), fun t _ => ⟨rfl, rfl⟩, fun t c h => (by cases h), fun t t' c c' b h => (by cases h), fun t h => (by cases h)⟩
  refine (hs.2 w Z (fun _ => none) w vs H hl (fun i hi => (hv i hi).mono (fun b _ hb => ?_))).mono ?_
  · rcases hb with hb | ⟨t, cs, o, h1, h2⟩ | ⟨t, c, h1, h2⟩
    · exact hb
    · cases h2
    · cases h2
  · rintro e w' ⟨u, ρ', r, h', k1, k2, k3, k4, _⟩
    obtain ⟨r', f1, f2⟩ := hQ r h' k2
    exact ⟨u, r', k1, f2, f1.sound k3 u k4, k3.below⟩
theorem SCx.se {P : Program} {f : FuncId} {args : List PV} {R : PV → Prop} (hs : SCx P f args R) (hc : PV.cl.clL args = true) (h : HP) : SChE P f args h (fun r h' => R r ∧ h' = h) := by
  refine ⟨hs.1, fun w0 Z0 ρ w vs H hl hv => ?_⟩
  refine (hs.2 (Zof Z0 ρ h) w vs (fun b hb => H.zlt b hb) hl (fun i hi => (hv i hi).cl_any (clL_get hc i hi))).mono ?_
  rintro e w' ⟨u, r, k1, k2, k3, k4⟩
  exact ⟨u, ρ, r, h, k1, ⟨k2, rfl⟩, H.step k4, k3.ext (Ext.refl _ _) (fun _ _ h => h) (fun t p h => by cases h), fun pv x hx => hx.ext (Ext.of_below k4) (fun _ _ h => h) (fun _ _ h => h)⟩
theorem Fac.fz {n m T off : Nat} {tk : Nat → Nat} {G : Fam} {h : HP} (H : Fac n m T off tk G h) : Fz h (.ref T off 1 m) (plls (fcs n m G)) := by
  obtain ⟨cs, c1, c2, c3⟩ := H.cs
  unfold plls
  rw [fcs_len]
  refine .ref c1 (by omega) (by simp [fcs_len]) (fun i hi => ?_)
  have hi : i < m := by omega
  rw [show cs.getD (off + i) .junk = .ref (tk i) 0 1 n by simp [List.getD, c3 i hi], show ((fcs n m G).map pli).getD i .junk = pli (tabN n (G i)) by simp [fcs, lst, List.getD, hi]]
  exact Fz.refI (H.row i hi) (tab_len _ _).symm rfl
theorem formOf_x {n : Nat} {w : List Int} (hw : Wd n w) : SCx Try.prog 99 [pint n, pli w] (fun r => ∃ k m G, St n w k m G ∧ r = .lptr [pint n, pint k, plls (fcs n m G)]) :=
  SCx.of_e (formOf_e hw H0) (fun r h' ⟨tf, k, m, G, T, off, tk, h1, h2, h3, h4⟩ => by
    subst h1
    refine ⟨_, .ptr (cs := [pint n, pint k, .ref T off 1 m]) (ds := [pint n, pint k, plls (fcs n m G)]) h4.v rfl (fun i hi => ?_), k, m, G, h4.st, rfl⟩
    match i, hi with
    | 0, _ => exact .cl rfl
    | 1, _ => exact .cl rfl
    | 2, _ => exact h4.F.fz
    | i + 3, hh => simp at hh; omega)
theorem fcs_eq {n m m' : Nat} {G G' : Fam} : fcs n m G = fcs n m' G' ↔ m = m' ∧ ∀ i, i < m → ∀ j, j < n → G i j = G' i j := by
  constructor
  · intro e
    have hl : m = m' := by have := congrArg List.length e; rwa [fcs_len, fcs_len] at this
    subst hl
    refine ⟨rfl, fun i hi j hj => ?_⟩
    have h1 := congrArg (fun l => l.getD i []) e
    simp only [fcs_get hi] at h1
    have h2 := congrArg (fun l => l.getD j 0) h1
    simp only [tabN_get hj] at h2
    omega
  · rintro ⟨rfl, h⟩
    exact List.ext_getElem (by rw [fcs_len, fcs_len]) (fun i h1 h2 => by
      rw [fcs_len] at h1
      simp only [fcs, lst, List.getElem_map, List.getElem_range]
      exact tab_ext (h i h1))
/-- forms are equal exactly where the braids are -/
theorem forms_we {n : Nat} (hn : 1 ≤ n ∧ n ≤ 6) {a b : List Int} {k k' : Int} {m m' : Nat} {G G' : Fam} (ha : St n a k m G) (hb : St n b k' m' G') : (k = k' ∧ fcs n m G = fcs n m' G') ↔ WE n a b := by
  obtain ⟨a1, a2, a3, a4, a5⟩ := ha.all hn.2
  obtain ⟨b1, b2, b3, b4, b5⟩ := hb.all hn.2
  by_cases hn1 : n = 1
  · have nl : ∀ w : List Int, brd n w → w = [] := fun w h => by
      cases w with
      | nil => rfl
      | cons x w => have := h x (by simp); omega
    obtain rfl := nl a a1
    obtain rfl := nl b b1
    obtain ⟨rfl, rfl⟩ := st_nil ha
    obtain ⟨rfl, rfl⟩ := st_nil hb
    exact ⟨fun _ => WE.refl _, fun _ => ⟨rfl, rfl⟩⟩
  · constructor
    · rintro ⟨rfl, e⟩
      obtain ⟨rfl, e2⟩ := fcs_eq.1 e
      refine a3.trans (WE.trans ?_ b3.symm)
      have : fwd n k (lst m G) = fwd n k (lst m G') := by
        unfold fwd
        congr 1
        have key : ∀ m : Nat, (∀ i, i < m → ∀ j, j < n → G i j = G' i j) → (lst m G).flatMap (spw n) = (lst m G').flatMap (spw n) := fun m => by
          induction m with
          | zero => exact fun _ => rfl
          | succ m ih =>
            intro h
            rw [lst_succ, lst_succ, List.flatMap_append, List.flatMap_append, ih (fun i hi => h i (by omega))]
            simp only [List.flatMap_cons, List.flatMap_nil, List.append_nil]
            rw [spw_congr (h m (by omega))]
        exact key m e2
      rw [this]
      exact WE.refl _
    · intro e
      obtain ⟨h1, h2, h3⟩ := form_uniq (by omega) a2 b2 (a3.symm.trans (e.trans b3))
      exact ⟨h1, fcs_eq.2 ⟨h2, h3⟩⟩
set_option maxHeartbeats 16000000 in
set_option maxRecDepth 100000 in
theorem gequal_ok {n : Nat} {a b : List Int} (hn : 1 ≤ n) (ha : Wd n a) (hb : Wd n b) (h0 : bF n a = 0) (h1 : bF n b = 0) {v : Bool} (hv : v = true ↔ WE n a b) : SC Try.prog 51 [pint n, pli a, pli b] (.tup [.sc (.bool v), pint 0]) := by
  have hn6 := ha.n9
  have ka := bcheck_s n a
  have kb := bcheck_s n b
  rw [h0] at ka
  rw [h1] at kb
  have fa := formOf_x ha
  have fb := formOf_x hb
  refine SC.go {} tok mixed Try.func51 rfl rfl Try.ntmps51 rfl rfl (by kernel_rfl) ?_
  first | simp only [updS] | simp only [updL, Nat.reduceAdd]
  repeat (first | refine S0 ?_ | refine S1 ?_ | refine S2 ?_ | refine S3 ?_ | refine S4 ?_ | refine S5 ?_ | refine S6 ?_ | refine S7 ?_ | refine S8 ?_ | refine S9 ?_ | refine S10 ?_ | refine S11 ?_ | refine S12 ?_ | refine S13 ?_ | refine S15 ?_ | refine S16 ?_ | refine S19 ?_ | refine S20 ?_ | refine S21 ?_ | refine S22 ?_ | refine S23 ?_ | refine S25 ?_ | refine S26 ?_ | refine S28 ?_ | refine S29 ?_ | refine S30 ?_ | refine S31 ?_ | refine S34 ?_ | refine S36 ?_ | refine S37 ?_ | refine S38 ?_ | refine S39 ?_ | refine S40 ?_ | refine S41 ?_ | refine S44 ?_ | refine S49 ?_ | refine S67 ?_ | refine S77 ?_)
  refine CW.loopS (fun i : Nat => i ≤ 2) (fun i => [(0, pint n), (1, pli a), (2, pli b), (15, .lst true 1 2 [pli a, pli b]), (16, pint 2), (17, pint i)]) (fun _ h => h = H0) (fun i => 2 - i) 0 ⟨by omega, SLx, rfl⟩ ?_
  rintro i t h hi rfl
  first | simp only [updS] | simp only [updL, Nat.reduceAdd]
  by_cases hi2 : i < 2
  · rcases (show i = 0 ∨ i = 1 by omega) with rfl | rfl
    · repeat (first | refine S0 ?_ | refine S1 ?_ | refine S2 ?_ | refine S3 ?_ | refine S4 ?_ | refine S5 ?_ | refine S6 ?_ | refine S7 ?_ | refine S8 ?_ | refine S9 ?_ | refine S10 ?_ | refine S11 ?_ | refine S12 ?_ | refine S13 ?_ | refine S15 ?_ | refine S16 ?_ | refine S19 ?_ | refine S20 ?_ | refine S21 ?_ | refine S22 ?_ | refine S23 ?_ | refine S25 ?_ | refine S26 ?_ | refine S28 ?_ | refine S29 ?_ | refine S30 ?_ | refine S31 ?_ | refine S34 ?_ | refine S36 ?_ | refine S37 ?_ | refine S38 ?_ | refine S39 ?_ | refine S40 ?_ | refine S41 ?_ | refine S44 ?_ | refine S49 ?_ | refine S67 ?_ | refine S77 ?_)
      refine Scall (args := [pint n, pli a]) ka ?_
      repeat (first | refine S0 ?_ | refine S1 ?_ | refine S2 ?_ | refine S3 ?_ | refine S4 ?_ | refine S5 ?_ | refine S6 ?_ | refine S7 ?_ | refine S8 ?_ | refine S9 ?_ | refine S10 ?_ | refine S11 ?_ | refine S12 ?_ | refine S13 ?_ | refine S15 ?_ | refine S16 ?_ | refine S19 ?_ | refine S20 ?_ | refine S21 ?_ | refine S22 ?_ | refine S23 ?_ | refine S25 ?_ | refine S26 ?_ | refine S28 ?_ | refine S29 ?_ | refine S30 ?_ | refine S31 ?_ | refine S34 ?_ | refine S36 ?_ | refine S37 ?_ | refine S38 ?_ | refine S39 ?_ | refine S40 ?_ | refine S41 ?_ | refine S44 ?_ | refine S49 ?_ | refine S67 ?_ | refine S77 ?_)
      exact ⟨1, by omega, SLx, rfl, by omega⟩
    · repeat (first | refine S0 ?_ | refine S1 ?_ | refine S2 ?_ | refine S3 ?_ | refine S4 ?_ | refine S5 ?_ | refine S6 ?_ | refine S7 ?_ | refine S8 ?_ | refine S9 ?_ | refine S10 ?_ | refine S11 ?_ | refine S12 ?_ | refine S13 ?_ | refine S15 ?_ | refine S16 ?_ | refine S19 ?_ | refine S20 ?_ | refine S21 ?_ | refine S22 ?_ | refine S23 ?_ | refine S25 ?_ | refine S26 ?_ | refine S28 ?_ | refine S29 ?_ | refine S30 ?_ | refine S31 ?_ | refine S34 ?_ | refine S36 ?_ | refine S37 ?_ | refine S38 ?_ | refine S39 ?_ | refine S40 ?_ | refine S41 ?_ | refine S44 ?_ | refine S49 ?_ | refine S67 ?_ | refine S77 ?_)
      refine Scall (args := [pint n, pli b]) kb ?_
      repeat (first | refine S0 ?_ | refine S1 ?_ | refine S2 ?_ | refine S3 ?_ | refine S4 ?_ | refine S5 ?_ | refine S6 ?_ | refine S7 ?_ | refine S8 ?_ | refine S9 ?_ | refine S10 ?_ | refine S11 ?_ | refine S12 ?_ | refine S13 ?_ | refine S15 ?_ | refine S16 ?_ | refine S19 ?_ | refine S20 ?_ | refine S21 ?_ | refine S22 ?_ | refine S23 ?_ | refine S25 ?_ | refine S26 ?_ | refine S28 ?_ | refine S29 ?_ | refine S30 ?_ | refine S31 ?_ | refine S34 ?_ | refine S36 ?_ | refine S37 ?_ | refine S38 ?_ | refine S39 ?_ | refine S40 ?_ | refine S41 ?_ | refine S44 ?_ | refine S49 ?_ | refine S67 ?_ | refine S77 ?_)
      exact ⟨2, by omega, SLx, rfl, by omega⟩
  · obtain rfl : i = 2 := by omega
    repeat (first | refine S0 ?_ | refine S1 ?_ | refine S2 ?_ | refine S3 ?_ | refine S4 ?_ | refine S5 ?_ | refine S6 ?_ | refine S7 ?_ | refine S8 ?_ | refine S9 ?_ | refine S10 ?_ | refine S11 ?_ | refine S12 ?_ | refine S13 ?_ | refine S15 ?_ | refine S16 ?_ | refine S19 ?_ | refine S20 ?_ | refine S21 ?_ | refine S22 ?_ | refine S23 ?_ | refine S25 ?_ | refine S26 ?_ | refine S28 ?_ | refine S29 ?_ | refine S30 ?_ | refine S31 ?_ | refine S34 ?_ | refine S36 ?_ | refine S37 ?_ | refine S38 ?_ | refine S39 ?_ | refine S40 ?_ | refine S41 ?_ | refine S44 ?_ | refine S49 ?_ | refine S67 ?_ | refine S77 ?_)
    refine Scalle (args := [pint n, pli a]) (fa.se (by simp only [PV.cl.clL, pint_cl, pli_cl, Bool.and_self]) H0) ?_
    rintro r h' ⟨⟨k, m, G, hS, rfl⟩, rfl⟩
    repeat (first | refine S0 ?_ | refine S1 ?_ | refine S2 ?_ | refine S3 ?_ | refine S4 ?_ | refine S5 ?_ | refine S6 ?_ | refine S7 ?_ | refine S8 ?_ | refine S9 ?_ | refine S10 ?_ | refine S11 ?_ | refine S12 ?_ | refine S13 ?_ | refine S15 ?_ | refine S16 ?_ | refine S19 ?_ | refine S20 ?_ | refine S21 ?_ | refine S22 ?_ | refine S23 ?_ | refine S25 ?_ | refine S26 ?_ | refine S28 ?_ | refine S29 ?_ | refine S30 ?_ | refine S31 ?_ | refine S34 ?_ | refine S36 ?_ | refine S37 ?_ | refine S38 ?_ | refine S39 ?_ | refine S40 ?_ | refine S41 ?_ | refine S44 ?_ | refine S49 ?_ | refine S67 ?_ | refine S77 ?_)
    refine Scalle (args := [pint n, pli b]) (fb.se (by simp only [PV.cl.clL, pint_cl, pli_cl, Bool.and_self]) H0) ?_
    rintro r h' ⟨⟨k', m', G', hS', rfl⟩, rfl⟩
    have hw := forms_we ⟨hn, hn6⟩ hS hS'
    have hm := hS.m_le
    have hm' := hS'.m_le
    have hal := ha.len
    have hbl := hb.len
    have hl1 := fcs_len n m G
    have hl2 := fcs_len n m' G'
    have kE := equalFuncG_s (b1 := false) (b2 := false) (c1 := false) (c2 := false) (us := fcs n m G) (vs := fcs n m' G') (f := 20) (by omega) (by omega) (fun x y => equal_s x y)
    rw [show PV.lst false 1 (fcs n m G).length ((fcs n m G).map (LF false)) = plls (fcs n m G) from rfl, show PV.lst false 1 (fcs n m' G').length ((fcs n m' G').map (LF false)) = plls (fcs n m' G') from rfl] at kE
    have c1 : (plls (fcs n m G)).cl = true := plls_cl _
    have c2 : (plls (fcs n m' G')).cl = true := plls_cl _
    generalize fcs n m G = F at *
    generalize fcs n m' G' = F' at *
    by_cases hk : k = k'
    · have hv2 : decide (F = F') = v := by
        rcases Bool.eq_false_or_eq_true v with e | e
        · rw [e]; exact decide_eq_true ((hw.2 (hv.1 e)).2)
        · rw [e]; exact decide_eq_false (fun h => by have := hv.2 (hw.1 ⟨hk, h⟩); rw [e] at this; cases this)
      rw [hv2] at kE
      repeat (first | refine S0 ?_ | refine S1 ?_ | refine S2 ?_ | refine S3 ?_ | refine S4 ?_ | refine S5 ?_ | refine S6 ?_ | refine S7 ?_ | refine S8 ?_ | refine S9 ?_ | refine S10 ?_ | refine S11 ?_ | refine S12 ?_ | refine S13 ?_ | refine S15 ?_ | refine S16 ?_ | refine S19 ?_ | refine S20 ?_ | refine S21 ?_ | refine S22 ?_ | refine S23 ?_ | refine S25 ?_ | refine S26 ?_ | refine S28 ?_ | refine S29 ?_ | refine S30 ?_ | refine S31 ?_ | refine S34 ?_ | refine S36 ?_ | refine S37 ?_ | refine S38 ?_ | refine S39 ?_ | refine S40 ?_ | refine S41 ?_ | refine S44 ?_ | refine S49 ?_ | refine S67 ?_ | refine S77 ?_)
      refine Scall (args := [plls F, plls F', .clo 20 []]) kE ?_ (hc := by simp only [PV.cl.clL, PV.cl, c1, c2, Bool.and_self])
      repeat (first | refine S0 ?_ | refine S1 ?_ | refine S2 ?_ | refine S3 ?_ | refine S4 ?_ | refine S5 ?_ | refine S6 ?_ | refine S7 ?_ | refine S8 ?_ | refine S9 ?_ | refine S10 ?_ | refine S11 ?_ | refine S12 ?_ | refine S13 ?_ | refine S15 ?_ | refine S16 ?_ | refine S19 ?_ | refine S20 ?_ | refine S21 ?_ | refine S22 ?_ | refine S23 ?_ | refine S25 ?_ | refine S26 ?_ | refine S28 ?_ | refine S29 ?_ | refine S30 ?_ | refine S31 ?_ | refine S34 ?_ | refine S36 ?_ | refine S37 ?_ | refine S38 ?_ | refine S39 ?_ | refine S40 ?_ | refine S41 ?_ | refine S44 ?_ | refine S49 ?_ | refine S67 ?_ | refine S77 ?_)
      exact ⟨.inr rfl, .cl rfl⟩
    · have hv2 : v = false := by
        rcases Bool.eq_false_or_eq_true v with e | e
        · exact absurd (hw.2 (hv.1 e)).1 hk
        · exact e
      rw [hv2]
      repeat (first | refine S0 ?_ | refine S1 ?_ | refine S2 ?_ | refine S3 ?_ | refine S4 ?_ | refine S5 ?_ | refine S6 ?_ | refine S7 ?_ | refine S8 ?_ | refine S9 ?_ | refine S10 ?_ | refine S11 ?_ | refine S12 ?_ | refine S13 ?_ | refine S15 ?_ | refine S16 ?_ | refine S19 ?_ | refine S20 ?_ | refine S21 ?_ | refine S22 ?_ | refine S23 ?_ | refine S25 ?_ | refine S26 ?_ | refine S28 ?_ | refine S29 ?_ | refine S30 ?_ | refine S31 ?_ | refine S34 ?_ | refine S36 ?_ | refine S37 ?_ | refine S38 ?_ | refine S39 ?_ | refine S40 ?_ | refine S41 ?_ | refine S44 ?_ | refine S49 ?_ | refine S67 ?_ | refine S77 ?_)
      exact ⟨.inr rfl, .cl rfl⟩
set_option maxHeartbeats 16000000 in
set_option maxRecDepth 100000 in
theorem gequal_bad {n : Int} {a b : List Int} (h : ¬ (bF n a = 0 ∧ bF n b = 0)) : SC Try.prog 51 [pint n, pli a, pli b] (.tup [.sc (.bool false), pint (if bF n a = 0 then bF n b else bF n a)]) := by
  have ka := bcheck_s n a
  have kb := bcheck_s n b
  generalize bF n a = x at *
  generalize bF n b = y at *
  refine SC.go {} tok mixed Try.func51 rfl rfl Try.ntmps51 rfl rfl (by kernel_rfl) ?_
  first | simp only [updS] | simp only [updL, Nat.reduceAdd]
  repeat (first | refine S0 ?_ | refine S1 ?_ | refine S2 ?_ | refine S3 ?_ | refine S4 ?_ | refine S5 ?_ | refine S6 ?_ | refine S7 ?_ | refine S8 ?_ | refine S9 ?_ | refine S10 ?_ | refine S11 ?_ | refine S12 ?_ | refine S13 ?_ | refine S15 ?_ | refine S16 ?_ | refine S19 ?_ | refine S20 ?_ | refine S21 ?_ | refine S22 ?_ | refine S23 ?_ | refine S25 ?_ | refine S26 ?_ | refine S28 ?_ | refine S29 ?_ | refine S30 ?_ | refine S31 ?_ | refine S34 ?_ | refine S36 ?_ | refine S37 ?_ | refine S38 ?_ | refine S39 ?_ | refine S40 ?_ | refine S41 ?_ | refine S44 ?_ | refine S49 ?_ | refine S67 ?_ | refine S77 ?_)
  refine CW.loopS (fun i : Nat => i ≤ 1 ∧ (i = 1 → x = 0)) (fun i => [(0, pint n), (1, pli a), (2, pli b), (15, .lst true 1 2 [pli a, pli b]), (16, pint 2), (17, pint i)]) (fun _ h => h = H0) (fun i => 2 - i) 0 ⟨⟨by omega, by omega⟩, SLx, rfl⟩ ?_
  rintro i t h ⟨hi, hx⟩ rfl
  first | simp only [updS] | simp only [updL, Nat.reduceAdd]
  rcases (show i = 0 ∨ i = 1 by omega) with rfl | rfl
  · repeat (first | refine S0 ?_ | refine S1 ?_ | refine S2 ?_ | refine S3 ?_ | refine S4 ?_ | refine S5 ?_ | refine S6 ?_ | refine S7 ?_ | refine S8 ?_ | refine S9 ?_ | refine S10 ?_ | refine S11 ?_ | refine S12 ?_ | refine S13 ?_ | refine S15 ?_ | refine S16 ?_ | refine S19 ?_ | refine S20 ?_ | refine S21 ?_ | refine S22 ?_ | refine S23 ?_ | refine S25 ?_ | refine S26 ?_ | refine S28 ?_ | refine S29 ?_ | refine S30 ?_ | refine S31 ?_ | refine S34 ?_ | refine S36 ?_ | refine S37 ?_ | refine S38 ?_ | refine S39 ?_ | refine S40 ?_ | refine S41 ?_ | refine S44 ?_ | refine S49 ?_ | refine S67 ?_ | refine S77 ?_)
    refine Scall (args := [pint n, pli a]) ka ?_
    by_cases c : x = 0
    · repeat (first | refine S0 ?_ | refine S1 ?_ | refine S2 ?_ | refine S3 ?_ | refine S4 ?_ | refine S5 ?_ | refine S6 ?_ | refine S7 ?_ | refine S8 ?_ | refine S9 ?_ | refine S10 ?_ | refine S11 ?_ | refine S12 ?_ | refine S13 ?_ | refine S15 ?_ | refine S16 ?_ | refine S19 ?_ | refine S20 ?_ | refine S21 ?_ | refine S22 ?_ | refine S23 ?_ | refine S25 ?_ | refine S26 ?_ | refine S28 ?_ | refine S29 ?_ | refine S30 ?_ | refine S31 ?_ | refine S34 ?_ | refine S36 ?_ | refine S37 ?_ | refine S38 ?_ | refine S39 ?_ | refine S40 ?_ | refine S41 ?_ | refine S44 ?_ | refine S49 ?_ | refine S67 ?_ | refine S77 ?_)
      exact ⟨1, ⟨by omega, fun _ => c⟩, SLx, rfl, by omega⟩
    · rw [if_neg c]
      repeat (first | refine S0 ?_ | refine S1 ?_ | refine S2 ?_ | refine S3 ?_ | refine S4 ?_ | refine S5 ?_ | refine S6 ?_ | refine S7 ?_ | refine S8 ?_ | refine S9 ?_ | refine S10 ?_ | refine S11 ?_ | refine S12 ?_ | refine S13 ?_ | refine S15 ?_ | refine S16 ?_ | refine S19 ?_ | refine S20 ?_ | refine S21 ?_ | refine S22 ?_ | refine S23 ?_ | refine S25 ?_ | refine S26 ?_ | refine S28 ?_ | refine S29 ?_ | refine S30 ?_ | refine S31 ?_ | refine S34 ?_ | refine S36 ?_ | refine S37 ?_ | refine S38 ?_ | refine S39 ?_ | refine S40 ?_ | refine S41 ?_ | refine S44 ?_ | refine S49 ?_ | refine S67 ?_ | refine S77 ?_)
      exact ⟨.inr rfl, .cl rfl⟩
  · have c := hx rfl
    have c2 : y ≠ 0 := fun e => h ⟨c, e⟩
    rw [if_pos c]
    repeat (first | refine S0 ?_ | refine S1 ?_ | refine S2 ?_ | refine S3 ?_ | refine S4 ?_ | refine S5 ?_ | refine S6 ?_ | refine S7 ?_ | refine S8 ?_ | refine S9 ?_ | refine S10 ?_ | refine S11 ?_ | refine S12 ?_ | refine S13 ?_ | refine S15 ?_ | refine S16 ?_ | refine S19 ?_ | refine S20 ?_ | refine S21 ?_ | refine S22 ?_ | refine S23 ?_ | refine S25 ?_ | refine S26 ?_ | refine S28 ?_ | refine S29 ?_ | refine S30 ?_ | refine S31 ?_ | refine S34 ?_ | refine S36 ?_ | refine S37 ?_ | refine S38 ?_ | refine S39 ?_ | refine S40 ?_ | refine S41 ?_ | refine S44 ?_ | refine S49 ?_ | refine S67 ?_ | refine S77 ?_)
    refine Scall (args := [pint n, pli b]) kb ?_
    repeat (first | refine S0 ?_ | refine S1 ?_ | refine S2 ?_ | refine S3 ?_ | refine S4 ?_ | refine S5 ?_ | refine S6 ?_ | refine S7 ?_ | refine S8 ?_ | refine S9 ?_ | refine S10 ?_ | refine S11 ?_ | refine S12 ?_ | refine S13 ?_ | refine S15 ?_ | refine S16 ?_ | refine S19 ?_ | refine S20 ?_ | refine S21 ?_ | refine S22 ?_ | refine S23 ?_ | refine S25 ?_ | refine S26 ?_ | refine S28 ?_ | refine S29 ?_ | refine S30 ?_ | refine S31 ?_ | refine S34 ?_ | refine S36 ?_ | refine S37 ?_ | refine S38 ?_ | refine S39 ?_ | refine S40 ?_ | refine S41 ?_ | refine S44 ?_ | refine S49 ?_ | refine S67 ?_ | refine S77 ?_)
    exact ⟨.inr rfl, .cl rfl⟩
set_option maxHeartbeats 16000000 in
set_option maxRecDepth 100000 in
theorem equals_v {n : Nat} {a b : List Int} (hn : n ≤ 6) (ha : brd n a) (hb : brd n b) (hla : a.length ≤ 1000) (hlb : b.length ≤ 1000) {v : Bool} (hv : v = true ↔ WE n a b) (hB : PB n [] (invW a ++ b) 3600000000000) : SC Try.prog 52 [pint n, pli a, pli b] (.sc (.bool v)) := by
  have hil : (invW a).length = a.length := by simp [invW]
  have ko := opposite_s (w := a) hla (fun k hk => by
    have := ha (a.getD k 0) (by rw [getD_lt 0 hk]; exact List.getElem_mem hk)
    omega)
  have kc := concat_s (cs := [(false, invL a), (false, b)]) (by simp) (by show (invL a ++ (b ++ [])).length ≤ 100000; rw [List.append_nil, List.length_append, invL_eq]; omega)
  rw [show flat [(false, invL a), (false, b)] = invW a ++ b by show invL a ++ (b ++ []) = _; rw [List.append_nil]; rfl] at kc
  have hbr : brd n (invW a ++ b) := brd_app (brd_inv ha) hb
  have hl : (invW a ++ b).length ≤ 100000 := by rw [List.length_append]; omega
  have heq : WE n a b ↔ ∀ x : Int, 1 ≤ x ∧ x ≤ n → img (invW a ++ b) [x] = [x] := by
    constructor
    · exact fun hw x hx => hw.eqv ha (inr_one hx) trivial
    · intro h
      have h2 := (img_equal ha hb).1 h
      refine WE.of ha hb (fun x hx => ?_)
      rw [img_one ha hx, img_one hb hx]
      exact h2 x hx
  rw [heq] at hv
  clear heq
  refine SC.go {} tok mixed Try.func52 rfl rfl Try.ntmps52 rfl rfl (by kernel_rfl) ?_
  first | simp only [updS] | simp only [updL, Nat.reduceAdd]
  repeat (first | refine S0 ?_ | refine S1 ?_ | refine S2 ?_ | refine S3 ?_ | refine S4 ?_ | refine S5 ?_ | refine S6 ?_ | refine S7 ?_ | refine S8 ?_ | refine S9 ?_ | refine S10 ?_ | refine S11 ?_ | refine S12 ?_ | refine S13 ?_ | refine S15 ?_ | refine S16 ?_ | refine S19 ?_ | refine S20 ?_ | refine S21 ?_ | refine S22 ?_ | refine S23 ?_ | refine S25 ?_ | refine S26 ?_ | refine S28 ?_ | refine S29 ?_ | refine S30 ?_ | refine S31 ?_ | refine S34 ?_ | refine S36 ?_ | refine S37 ?_ | refine S38 ?_ | refine S39 ?_ | refine S40 ?_ | refine S41 ?_ | refine S44 ?_ | refine S49 ?_ | refine S67 ?_ | refine S77 ?_)
  refine Scall (args := [pli a]) ko ?_
  repeat (first | refine S0 ?_ | refine S1 ?_ | refine S2 ?_ | refine S3 ?_ | refine S4 ?_ | refine S5 ?_ | refine S6 ?_ | refine S7 ?_ | refine S8 ?_ | refine S9 ?_ | refine S10 ?_ | refine S11 ?_ | refine S12 ?_ | refine S13 ?_ | refine S15 ?_ | refine S16 ?_ | refine S19 ?_ | refine S20 ?_ | refine S21 ?_ | refine S22 ?_ | refine S23 ?_ | refine S25 ?_ | refine S26 ?_ | refine S28 ?_ | refine S29 ?_ | refine S30 ?_ | refine S31 ?_ | refine S34 ?_ | refine S36 ?_ | refine S37 ?_ | refine S38 ?_ | refine S39 ?_ | refine S40 ?_ | refine S41 ?_ | refine S44 ?_ | refine S49 ?_ | refine S67 ?_ | refine S77 ?_)
  refine Scall (args := [.lst true 1 2 [pli (invL a), pli b]]) kc ?_
  generalize invW a ++ b = u at *
  repeat (first | refine S0 ?_ | refine S1 ?_ | refine S2 ?_ | refine S3 ?_ | refine S4 ?_ | refine S5 ?_ | refine S6 ?_ | refine S7 ?_ | refine S8 ?_ | refine S9 ?_ | refine S10 ?_ | refine S11 ?_ | refine S12 ?_ | refine S13 ?_ | refine S15 ?_ | refine S16 ?_ | refine S19 ?_ | refine S20 ?_ | refine S21 ?_ | refine S22 ?_ | refine S23 ?_ | refine S25 ?_ | refine S26 ?_ | refine S28 ?_ | refine S29 ?_ | refine S30 ?_ | refine S31 ?_ | refine S34 ?_ | refine S36 ?_ | refine S37 ?_ | refine S38 ?_ | refine S39 ?_ | refine S40 ?_ | refine S41 ?_ | refine S44 ?_ | refine S49 ?_ | refine S67 ?_ | refine S77 ?_)
  refine CW.loopS (fun x : Nat => (1 ≤ x ∧ x ≤ n + 1) ∧ ∀ y : Int, 1 ≤ y ∧ y < x → img u [y] = [y]) (fun x => [(0, pint n), (7, pli u), (8, pint x)]) (fun _ _ => True) (fun x => n + 1 - x) 1 ⟨⟨by omega, fun y hy => by omega⟩, SLx, trivial⟩ ?_
  rintro x t hp ⟨⟨hx1, hx2⟩, hx3⟩ _
  first | simp only [updS] | simp only [updL, Nat.reduceAdd]
  by_cases hxn : x ≤ n
  · have hxi : (1 : Int) ≤ (x : Int) ∧ (x : Int) ≤ (n : Int) := by omega
    have ki := image_g hbr (by omega) hxi (by omega) (fun k hk => Nat.le_trans (hB k hk x hxi) (by omega))
    have kq : SC Try.prog 20 [pli (img u [(x : Int)]), plt [(x : Int)]] (.sc (.bool (decide (img u [(x : Int)] = [(x : Int)])))) := SC.weak (equal_s (img u [(x : Int)]) [(x : Int)]) rfl
    by_cases hc : img u [(x : Int)] = [(x : Int)]
    · rw [decide_eq_true hc] at kq
      repeat (first | refine S0 ?_ | refine S1 ?_ | refine S2 ?_ | refine S3 ?_ | refine S4 ?_ | refine S5 ?_ | refine S6 ?_ | refine S7 ?_ | refine S8 ?_ | refine S9 ?_ | refine S10 ?_ | refine S11 ?_ | refine S12 ?_ | refine S13 ?_ | refine S15 ?_ | refine S16 ?_ | refine S19 ?_ | refine S20 ?_ | refine S21 ?_ | refine S22 ?_ | refine S23 ?_ | refine S25 ?_ | refine S26 ?_ | refine S28 ?_ | refine S29 ?_ | refine S30 ?_ | refine S31 ?_ | refine S34 ?_ | refine S36 ?_ | refine S37 ?_ | refine S38 ?_ | refine S39 ?_ | refine S40 ?_ | refine S41 ?_ | refine S44 ?_ | refine S49 ?_ | refine S67 ?_ | refine S77 ?_)
      refine Scall (args := [pint x, pli u]) ki ?_
      repeat (first | refine S0 ?_ | refine S1 ?_ | refine S2 ?_ | refine S3 ?_ | refine S4 ?_ | refine S5 ?_ | refine S6 ?_ | refine S7 ?_ | refine S8 ?_ | refine S9 ?_ | refine S10 ?_ | refine S11 ?_ | refine S12 ?_ | refine S13 ?_ | refine S15 ?_ | refine S16 ?_ | refine S19 ?_ | refine S20 ?_ | refine S21 ?_ | refine S22 ?_ | refine S23 ?_ | refine S25 ?_ | refine S26 ?_ | refine S28 ?_ | refine S29 ?_ | refine S30 ?_ | refine S31 ?_ | refine S34 ?_ | refine S36 ?_ | refine S37 ?_ | refine S38 ?_ | refine S39 ?_ | refine S40 ?_ | refine S41 ?_ | refine S44 ?_ | refine S49 ?_ | refine S67 ?_ | refine S77 ?_)
      refine Scall (args := [pli (img u [(x : Int)]), plt [(x : Int)]]) kq ?_
      repeat (first | refine S0 ?_ | refine S1 ?_ | refine S2 ?_ | refine S3 ?_ | refine S4 ?_ | refine S5 ?_ | refine S6 ?_ | refine S7 ?_ | refine S8 ?_ | refine S9 ?_ | refine S10 ?_ | refine S11 ?_ | refine S12 ?_ | refine S13 ?_ | refine S15 ?_ | refine S16 ?_ | refine S19 ?_ | refine S20 ?_ | refine S21 ?_ | refine S22 ?_ | refine S23 ?_ | refine S25 ?_ | refine S26 ?_ | refine S28 ?_ | refine S29 ?_ | refine S30 ?_ | refine S31 ?_ | refine S34 ?_ | refine S36 ?_ | refine S37 ?_ | refine S38 ?_ | refine S39 ?_ | refine S40 ?_ | refine S41 ?_ | refine S44 ?_ | refine S49 ?_ | refine S67 ?_ | refine S77 ?_)
      exact ⟨x + 1, ⟨by omega, fun y hy => by
        by_cases e : y = x
        · rw [e]; exact hc
        · exact hx3 y (by omega)⟩, SLx, trivial, by omega⟩
    · rw [decide_eq_false hc] at kq
      have hvf : v = false := by
        rcases Bool.eq_false_or_eq_true v with e | e
        · exact absurd (hv.1 e x hxi) hc
        · exact e
      rw [hvf]
      repeat (first | refine S0 ?_ | refine S1 ?_ | refine S2 ?_ | refine S3 ?_ | refine S4 ?_ | refine S5 ?_ | refine S6 ?_ | refine S7 ?_ | refine S8 ?_ | refine S9 ?_ | refine S10 ?_ | refine S11 ?_ | refine S12 ?_ | refine S13 ?_ | refine S15 ?_ | refine S16 ?_ | refine S19 ?_ | refine S20 ?_ | refine S21 ?_ | refine S22 ?_ | refine S23 ?_ | refine S25 ?_ | refine S26 ?_ | refine S28 ?_ | refine S29 ?_ | refine S30 ?_ | refine S31 ?_ | refine S34 ?_ | refine S36 ?_ | refine S37 ?_ | refine S38 ?_ | refine S39 ?_ | refine S40 ?_ | refine S41 ?_ | refine S44 ?_ | refine S49 ?_ | refine S67 ?_ | refine S77 ?_)
      refine Scall (args := [pint x, pli u]) ki ?_
      repeat (first | refine S0 ?_ | refine S1 ?_ | refine S2 ?_ | refine S3 ?_ | refine S4 ?_ | refine S5 ?_ | refine S6 ?_ | refine S7 ?_ | refine S8 ?_ | refine S9 ?_ | refine S10 ?_ | refine S11 ?_ | refine S12 ?_ | refine S13 ?_ | refine S15 ?_ | refine S16 ?_ | refine S19 ?_ | refine S20 ?_ | refine S21 ?_ | refine S22 ?_ | refine S23 ?_ | refine S25 ?_ | refine S26 ?_ | refine S28 ?_ | refine S29 ?_ | refine S30 ?_ | refine S31 ?_ | refine S34 ?_ | refine S36 ?_ | refine S37 ?_ | refine S38 ?_ | refine S39 ?_ | refine S40 ?_ | refine S41 ?_ | refine S44 ?_ | refine S49 ?_ | refine S67 ?_ | refine S77 ?_)
      refine Scall (args := [pli (img u [(x : Int)]), plt [(x : Int)]]) kq ?_
      repeat (first | refine S0 ?_ | refine S1 ?_ | refine S2 ?_ | refine S3 ?_ | refine S4 ?_ | refine S5 ?_ | refine S6 ?_ | refine S7 ?_ | refine S8 ?_ | refine S9 ?_ | refine S10 ?_ | refine S11 ?_ | refine S12 ?_ | refine S13 ?_ | refine S15 ?_ | refine S16 ?_ | refine S19 ?_ | refine S20 ?_ | refine S21 ?_ | refine S22 ?_ | refine S23 ?_ | refine S25 ?_ | refine S26 ?_ | refine S28 ?_ | refine S29 ?_ | refine S30 ?_ | refine S31 ?_ | refine S34 ?_ | refine S36 ?_ | refine S37 ?_ | refine S38 ?_ | refine S39 ?_ | refine S40 ?_ | refine S41 ?_ | refine S44 ?_ | refine S49 ?_ | refine S67 ?_ | refine S77 ?_)
      exact ⟨.inr rfl, .cl rfl⟩
  · have hvt : v = true := hv.2 (fun y hy => hx3 y (by omega))
    rw [hvt]
    repeat (first | refine S0 ?_ | refine S1 ?_ | refine S2 ?_ | refine S3 ?_ | refine S4 ?_ | refine S5 ?_ | refine S6 ?_ | refine S7 ?_ | refine S8 ?_ | refine S9 ?_ | refine S10 ?_ | refine S11 ?_ | refine S12 ?_ | refine S13 ?_ | refine S15 ?_ | refine S16 ?_ | refine S19 ?_ | refine S20 ?_ | refine S21 ?_ | refine S22 ?_ | refine S23 ?_ | refine S25 ?_ | refine S26 ?_ | refine S28 ?_ | refine S29 ?_ | refine S30 ?_ | refine S31 ?_ | refine S34 ?_ | refine S36 ?_ | refine S37 ?_ | refine S38 ?_ | refine S39 ?_ | refine S40 ?_ | refine S41 ?_ | refine S44 ?_ | refine S49 ?_ | refine S67 ?_ | refine S77 ?_)
    exact ⟨.inr rfl, .cl rfl⟩
set_option maxHeartbeats 32000000 in
set_option maxRecDepth 100000 in
theorem gequals_s (n : Int) (a b : List Int) : SC Try.prog 9 [pint n, pli a, pli b] (.sc (.bool true)) := by
  have kfa := bfault_s n a
  have kfb := bfault_s n b
  have ke := formed_s
  by_cases h0 : bF n a = 0
  · by_cases h1 : bF n b = 0
    · obtain ⟨N, rfl, hN, ha⟩ := Wd.of h0
      obtain ⟨N', hN', _, hb⟩ := Wd.of h1
      obtain rfl : N = N' := by omega
      have hN6 := ha.n9
      rw [h0] at kfa
      rw [h1] at kfb
      by_cases hl : a.length ≤ 6 ∧ b.length ≤ 6
      · obtain ⟨hla, hlb⟩ := hl
        have brw : ∀ w : List Int, Wd N w → brd N w := fun w hw x hx => by have := wd_let hw x hx; omega
        obtain ⟨v, hv⟩ : ∃ v : Bool, v = true ↔ WE N a b := by
          by_cases c : WE N a b
          · exact ⟨true, fun _ => c, fun _ => rfl⟩
          · exact ⟨false, fun h => (by cases h), fun h => absurd h c⟩
        have kg := gequal_ok hN ha hb h0 h1 hv
        have kq := equals_v hN6 (brw a ha) (brw b hb) (by omega) (by omega) hv (PB.letters brd_nil (brd_app (brd_inv (brw a ha)) (brw b hb)) (Lb.nil (n := (N : Int))) (by
          have : (invW a ++ b).length ≤ 12 := by rw [List.length_append, show (invW a).length = a.length by simp [invW]]; omega
          have := Nat.pow_le_pow_right (n := 2) (by omega) this
          omega))
        refine SC.go {} tok mixed Try.func9 rfl rfl Try.ntmps9 rfl rfl (by kernel_rfl) ?_
        first | simp only [updS] | simp only [updL, Nat.reduceAdd]
        repeat (first | refine S0 ?_ | refine S1 ?_ | refine S2 ?_ | refine S3 ?_ | refine S4 ?_ | refine S5 ?_ | refine S6 ?_ | refine S7 ?_ | refine S8 ?_ | refine S9 ?_ | refine S10 ?_ | refine S11 ?_ | refine S12 ?_ | refine S13 ?_ | refine S15 ?_ | refine S16 ?_ | refine S19 ?_ | refine S20 ?_ | refine S21 ?_ | refine S22 ?_ | refine S23 ?_ | refine S25 ?_ | refine S26 ?_ | refine S28 ?_ | refine S29 ?_ | refine S30 ?_ | refine S31 ?_ | refine S34 ?_ | refine S36 ?_ | refine S37 ?_ | refine S38 ?_ | refine S39 ?_ | refine S40 ?_ | refine S41 ?_ | refine S44 ?_ | refine S49 ?_ | refine S67 ?_ | refine S77 ?_)
        refine Scall (args := [pint N, pli a]) kfa ?_
        repeat (first | refine S0 ?_ | refine S1 ?_ | refine S2 ?_ | refine S3 ?_ | refine S4 ?_ | refine S5 ?_ | refine S6 ?_ | refine S7 ?_ | refine S8 ?_ | refine S9 ?_ | refine S10 ?_ | refine S11 ?_ | refine S12 ?_ | refine S13 ?_ | refine S15 ?_ | refine S16 ?_ | refine S19 ?_ | refine S20 ?_ | refine S21 ?_ | refine S22 ?_ | refine S23 ?_ | refine S25 ?_ | refine S26 ?_ | refine S28 ?_ | refine S29 ?_ | refine S30 ?_ | refine S31 ?_ | refine S34 ?_ | refine S36 ?_ | refine S37 ?_ | refine S38 ?_ | refine S39 ?_ | refine S40 ?_ | refine S41 ?_ | refine S44 ?_ | refine S49 ?_ | refine S67 ?_ | refine S77 ?_)
        refine Scall (args := [pint N, pli b]) kfb ?_
        repeat (first | refine S0 ?_ | refine S1 ?_ | refine S2 ?_ | refine S3 ?_ | refine S4 ?_ | refine S5 ?_ | refine S6 ?_ | refine S7 ?_ | refine S8 ?_ | refine S9 ?_ | refine S10 ?_ | refine S11 ?_ | refine S12 ?_ | refine S13 ?_ | refine S15 ?_ | refine S16 ?_ | refine S19 ?_ | refine S20 ?_ | refine S21 ?_ | refine S22 ?_ | refine S23 ?_ | refine S25 ?_ | refine S26 ?_ | refine S28 ?_ | refine S29 ?_ | refine S30 ?_ | refine S31 ?_ | refine S34 ?_ | refine S36 ?_ | refine S37 ?_ | refine S38 ?_ | refine S39 ?_ | refine S40 ?_ | refine S41 ?_ | refine S44 ?_ | refine S49 ?_ | refine S67 ?_ | refine S77 ?_)
        refine Scall (args := []) ke ?_
        repeat (first | refine S0 ?_ | refine S1 ?_ | refine S2 ?_ | refine S3 ?_ | refine S4 ?_ | refine S5 ?_ | refine S6 ?_ | refine S7 ?_ | refine S8 ?_ | refine S9 ?_ | refine S10 ?_ | refine S11 ?_ | refine S12 ?_ | refine S13 ?_ | refine S15 ?_ | refine S16 ?_ | refine S19 ?_ | refine S20 ?_ | refine S21 ?_ | refine S22 ?_ | refine S23 ?_ | refine S25 ?_ | refine S26 ?_ | refine S28 ?_ | refine S29 ?_ | refine S30 ?_ | refine S31 ?_ | refine S34 ?_ | refine S36 ?_ | refine S37 ?_ | refine S38 ?_ | refine S39 ?_ | refine S40 ?_ | refine S41 ?_ | refine S44 ?_ | refine S49 ?_ | refine S67 ?_ | refine S77 ?_)
        refine Scall (args := [pint N, pli a, pli b]) kg ?_
        repeat (first | refine S0 ?_ | refine S1 ?_ | refine S2 ?_ | refine S3 ?_ | refine S4 ?_ | refine S5 ?_ | refine S6 ?_ | refine S7 ?_ | refine S8 ?_ | refine S9 ?_ | refine S10 ?_ | refine S11 ?_ | refine S12 ?_ | refine S13 ?_ | refine S15 ?_ | refine S16 ?_ | refine S19 ?_ | refine S20 ?_ | refine S21 ?_ | refine S22 ?_ | refine S23 ?_ | refine S25 ?_ | refine S26 ?_ | refine S28 ?_ | refine S29 ?_ | refine S30 ?_ | refine S31 ?_ | refine S34 ?_ | refine S36 ?_ | refine S37 ?_ | refine S38 ?_ | refine S39 ?_ | refine S40 ?_ | refine S41 ?_ | refine S44 ?_ | refine S49 ?_ | refine S67 ?_ | refine S77 ?_)
        refine Scall (args := [pint N, pli a, pli b]) kq ?_
        repeat (first | refine S0 ?_ | refine S1 ?_ | refine S2 ?_ | refine S3 ?_ | refine S4 ?_ | refine S5 ?_ | refine S6 ?_ | refine S7 ?_ | refine S8 ?_ | refine S9 ?_ | refine S10 ?_ | refine S11 ?_ | refine S12 ?_ | refine S13 ?_ | refine S15 ?_ | refine S16 ?_ | refine S19 ?_ | refine S20 ?_ | refine S21 ?_ | refine S22 ?_ | refine S23 ?_ | refine S25 ?_ | refine S26 ?_ | refine S28 ?_ | refine S29 ?_ | refine S30 ?_ | refine S31 ?_ | refine S34 ?_ | refine S36 ?_ | refine S37 ?_ | refine S38 ?_ | refine S39 ?_ | refine S40 ?_ | refine S41 ?_ | refine S44 ?_ | refine S49 ?_ | refine S67 ?_ | refine S77 ?_)
        rw [beq_self_eq_true]
        exact ⟨.inr rfl, .cl rfl⟩
      · refine SC.go {} tok mixed Try.func9 rfl rfl Try.ntmps9 rfl rfl (by kernel_rfl) ?_
        first | simp only [updS] | simp only [updL, Nat.reduceAdd]
        by_cases hl1 : a.length ≤ 6
        · have hl2 : 6 < b.length := by omega
          repeat (first | refine S0 ?_ | refine S1 ?_ | refine S2 ?_ | refine S3 ?_ | refine S4 ?_ | refine S5 ?_ | refine S6 ?_ | refine S7 ?_ | refine S8 ?_ | refine S9 ?_ | refine S10 ?_ | refine S11 ?_ | refine S12 ?_ | refine S13 ?_ | refine S15 ?_ | refine S16 ?_ | refine S19 ?_ | refine S20 ?_ | refine S21 ?_ | refine S22 ?_ | refine S23 ?_ | refine S25 ?_ | refine S26 ?_ | refine S28 ?_ | refine S29 ?_ | refine S30 ?_ | refine S31 ?_ | refine S34 ?_ | refine S36 ?_ | refine S37 ?_ | refine S38 ?_ | refine S39 ?_ | refine S40 ?_ | refine S41 ?_ | refine S44 ?_ | refine S49 ?_ | refine S67 ?_ | refine S77 ?_)
          refine Scall (args := [pint N, pli a]) kfa ?_
          repeat (first | refine S0 ?_ | refine S1 ?_ | refine S2 ?_ | refine S3 ?_ | refine S4 ?_ | refine S5 ?_ | refine S6 ?_ | refine S7 ?_ | refine S8 ?_ | refine S9 ?_ | refine S10 ?_ | refine S11 ?_ | refine S12 ?_ | refine S13 ?_ | refine S15 ?_ | refine S16 ?_ | refine S19 ?_ | refine S20 ?_ | refine S21 ?_ | refine S22 ?_ | refine S23 ?_ | refine S25 ?_ | refine S26 ?_ | refine S28 ?_ | refine S29 ?_ | refine S30 ?_ | refine S31 ?_ | refine S34 ?_ | refine S36 ?_ | refine S37 ?_ | refine S38 ?_ | refine S39 ?_ | refine S40 ?_ | refine S41 ?_ | refine S44 ?_ | refine S49 ?_ | refine S67 ?_ | refine S77 ?_)
          refine Scall (args := [pint N, pli b]) kfb ?_
          repeat (first | refine S0 ?_ | refine S1 ?_ | refine S2 ?_ | refine S3 ?_ | refine S4 ?_ | refine S5 ?_ | refine S6 ?_ | refine S7 ?_ | refine S8 ?_ | refine S9 ?_ | refine S10 ?_ | refine S11 ?_ | refine S12 ?_ | refine S13 ?_ | refine S15 ?_ | refine S16 ?_ | refine S19 ?_ | refine S20 ?_ | refine S21 ?_ | refine S22 ?_ | refine S23 ?_ | refine S25 ?_ | refine S26 ?_ | refine S28 ?_ | refine S29 ?_ | refine S30 ?_ | refine S31 ?_ | refine S34 ?_ | refine S36 ?_ | refine S37 ?_ | refine S38 ?_ | refine S39 ?_ | refine S40 ?_ | refine S41 ?_ | refine S44 ?_ | refine S49 ?_ | refine S67 ?_ | refine S77 ?_)
          refine Scall (args := []) ke ?_
          repeat (first | refine S0 ?_ | refine S1 ?_ | refine S2 ?_ | refine S3 ?_ | refine S4 ?_ | refine S5 ?_ | refine S6 ?_ | refine S7 ?_ | refine S8 ?_ | refine S9 ?_ | refine S10 ?_ | refine S11 ?_ | refine S12 ?_ | refine S13 ?_ | refine S15 ?_ | refine S16 ?_ | refine S19 ?_ | refine S20 ?_ | refine S21 ?_ | refine S22 ?_ | refine S23 ?_ | refine S25 ?_ | refine S26 ?_ | refine S28 ?_ | refine S29 ?_ | refine S30 ?_ | refine S31 ?_ | refine S34 ?_ | refine S36 ?_ | refine S37 ?_ | refine S38 ?_ | refine S39 ?_ | refine S40 ?_ | refine S41 ?_ | refine S44 ?_ | refine S49 ?_ | refine S67 ?_ | refine S77 ?_)
          refine Scall (args := []) ke ?_
          repeat (first | refine S0 ?_ | refine S1 ?_ | refine S2 ?_ | refine S3 ?_ | refine S4 ?_ | refine S5 ?_ | refine S6 ?_ | refine S7 ?_ | refine S8 ?_ | refine S9 ?_ | refine S10 ?_ | refine S11 ?_ | refine S12 ?_ | refine S13 ?_ | refine S15 ?_ | refine S16 ?_ | refine S19 ?_ | refine S20 ?_ | refine S21 ?_ | refine S22 ?_ | refine S23 ?_ | refine S25 ?_ | refine S26 ?_ | refine S28 ?_ | refine S29 ?_ | refine S30 ?_ | refine S31 ?_ | refine S34 ?_ | refine S36 ?_ | refine S37 ?_ | refine S38 ?_ | refine S39 ?_ | refine S40 ?_ | refine S41 ?_ | refine S44 ?_ | refine S49 ?_ | refine S67 ?_ | refine S77 ?_)
          exact ⟨.inr rfl, .cl rfl⟩
        · repeat (first | refine S0 ?_ | refine S1 ?_ | refine S2 ?_ | refine S3 ?_ | refine S4 ?_ | refine S5 ?_ | refine S6 ?_ | refine S7 ?_ | refine S8 ?_ | refine S9 ?_ | refine S10 ?_ | refine S11 ?_ | refine S12 ?_ | refine S13 ?_ | refine S15 ?_ | refine S16 ?_ | refine S19 ?_ | refine S20 ?_ | refine S21 ?_ | refine S22 ?_ | refine S23 ?_ | refine S25 ?_ | refine S26 ?_ | refine S28 ?_ | refine S29 ?_ | refine S30 ?_ | refine S31 ?_ | refine S34 ?_ | refine S36 ?_ | refine S37 ?_ | refine S38 ?_ | refine S39 ?_ | refine S40 ?_ | refine S41 ?_ | refine S44 ?_ | refine S49 ?_ | refine S67 ?_ | refine S77 ?_)
          refine Scall (args := [pint N, pli a]) kfa ?_
          repeat (first | refine S0 ?_ | refine S1 ?_ | refine S2 ?_ | refine S3 ?_ | refine S4 ?_ | refine S5 ?_ | refine S6 ?_ | refine S7 ?_ | refine S8 ?_ | refine S9 ?_ | refine S10 ?_ | refine S11 ?_ | refine S12 ?_ | refine S13 ?_ | refine S15 ?_ | refine S16 ?_ | refine S19 ?_ | refine S20 ?_ | refine S21 ?_ | refine S22 ?_ | refine S23 ?_ | refine S25 ?_ | refine S26 ?_ | refine S28 ?_ | refine S29 ?_ | refine S30 ?_ | refine S31 ?_ | refine S34 ?_ | refine S36 ?_ | refine S37 ?_ | refine S38 ?_ | refine S39 ?_ | refine S40 ?_ | refine S41 ?_ | refine S44 ?_ | refine S49 ?_ | refine S67 ?_ | refine S77 ?_)
          refine Scall (args := [pint N, pli b]) kfb ?_
          repeat (first | refine S0 ?_ | refine S1 ?_ | refine S2 ?_ | refine S3 ?_ | refine S4 ?_ | refine S5 ?_ | refine S6 ?_ | refine S7 ?_ | refine S8 ?_ | refine S9 ?_ | refine S10 ?_ | refine S11 ?_ | refine S12 ?_ | refine S13 ?_ | refine S15 ?_ | refine S16 ?_ | refine S19 ?_ | refine S20 ?_ | refine S21 ?_ | refine S22 ?_ | refine S23 ?_ | refine S25 ?_ | refine S26 ?_ | refine S28 ?_ | refine S29 ?_ | refine S30 ?_ | refine S31 ?_ | refine S34 ?_ | refine S36 ?_ | refine S37 ?_ | refine S38 ?_ | refine S39 ?_ | refine S40 ?_ | refine S41 ?_ | refine S44 ?_ | refine S49 ?_ | refine S67 ?_ | refine S77 ?_)
          refine Scall (args := []) ke ?_
          repeat (first | refine S0 ?_ | refine S1 ?_ | refine S2 ?_ | refine S3 ?_ | refine S4 ?_ | refine S5 ?_ | refine S6 ?_ | refine S7 ?_ | refine S8 ?_ | refine S9 ?_ | refine S10 ?_ | refine S11 ?_ | refine S12 ?_ | refine S13 ?_ | refine S15 ?_ | refine S16 ?_ | refine S19 ?_ | refine S20 ?_ | refine S21 ?_ | refine S22 ?_ | refine S23 ?_ | refine S25 ?_ | refine S26 ?_ | refine S28 ?_ | refine S29 ?_ | refine S30 ?_ | refine S31 ?_ | refine S34 ?_ | refine S36 ?_ | refine S37 ?_ | refine S38 ?_ | refine S39 ?_ | refine S40 ?_ | refine S41 ?_ | refine S44 ?_ | refine S49 ?_ | refine S67 ?_ | refine S77 ?_)
          refine Scall (args := []) ke ?_
          repeat (first | refine S0 ?_ | refine S1 ?_ | refine S2 ?_ | refine S3 ?_ | refine S4 ?_ | refine S5 ?_ | refine S6 ?_ | refine S7 ?_ | refine S8 ?_ | refine S9 ?_ | refine S10 ?_ | refine S11 ?_ | refine S12 ?_ | refine S13 ?_ | refine S15 ?_ | refine S16 ?_ | refine S19 ?_ | refine S20 ?_ | refine S21 ?_ | refine S22 ?_ | refine S23 ?_ | refine S25 ?_ | refine S26 ?_ | refine S28 ?_ | refine S29 ?_ | refine S30 ?_ | refine S31 ?_ | refine S34 ?_ | refine S36 ?_ | refine S37 ?_ | refine S38 ?_ | refine S39 ?_ | refine S40 ?_ | refine S41 ?_ | refine S44 ?_ | refine S49 ?_ | refine S67 ?_ | refine S77 ?_)
          exact ⟨.inr rfl, .cl rfl⟩
    · have kg := gequal_bad (n := n) (a := a) (b := b) (fun h => h1 h.2)
      rw [if_pos h0] at kg
      rw [h0] at kfa
      generalize bF n b = y at *
      refine SC.go {} tok mixed Try.func9 rfl rfl Try.ntmps9 rfl rfl (by kernel_rfl) ?_
      first | simp only [updS] | simp only [updL, Nat.reduceAdd]
      repeat (first | refine S0 ?_ | refine S1 ?_ | refine S2 ?_ | refine S3 ?_ | refine S4 ?_ | refine S5 ?_ | refine S6 ?_ | refine S7 ?_ | refine S8 ?_ | refine S9 ?_ | refine S10 ?_ | refine S11 ?_ | refine S12 ?_ | refine S13 ?_ | refine S15 ?_ | refine S16 ?_ | refine S19 ?_ | refine S20 ?_ | refine S21 ?_ | refine S22 ?_ | refine S23 ?_ | refine S25 ?_ | refine S26 ?_ | refine S28 ?_ | refine S29 ?_ | refine S30 ?_ | refine S31 ?_ | refine S34 ?_ | refine S36 ?_ | refine S37 ?_ | refine S38 ?_ | refine S39 ?_ | refine S40 ?_ | refine S41 ?_ | refine S44 ?_ | refine S49 ?_ | refine S67 ?_ | refine S77 ?_)
      refine Scall (args := [pint n, pli a]) kfa ?_
      repeat (first | refine S0 ?_ | refine S1 ?_ | refine S2 ?_ | refine S3 ?_ | refine S4 ?_ | refine S5 ?_ | refine S6 ?_ | refine S7 ?_ | refine S8 ?_ | refine S9 ?_ | refine S10 ?_ | refine S11 ?_ | refine S12 ?_ | refine S13 ?_ | refine S15 ?_ | refine S16 ?_ | refine S19 ?_ | refine S20 ?_ | refine S21 ?_ | refine S22 ?_ | refine S23 ?_ | refine S25 ?_ | refine S26 ?_ | refine S28 ?_ | refine S29 ?_ | refine S30 ?_ | refine S31 ?_ | refine S34 ?_ | refine S36 ?_ | refine S37 ?_ | refine S38 ?_ | refine S39 ?_ | refine S40 ?_ | refine S41 ?_ | refine S44 ?_ | refine S49 ?_ | refine S67 ?_ | refine S77 ?_)
      refine Scall (args := [pint n, pli b]) kfb ?_
      repeat (first | refine S0 ?_ | refine S1 ?_ | refine S2 ?_ | refine S3 ?_ | refine S4 ?_ | refine S5 ?_ | refine S6 ?_ | refine S7 ?_ | refine S8 ?_ | refine S9 ?_ | refine S10 ?_ | refine S11 ?_ | refine S12 ?_ | refine S13 ?_ | refine S15 ?_ | refine S16 ?_ | refine S19 ?_ | refine S20 ?_ | refine S21 ?_ | refine S22 ?_ | refine S23 ?_ | refine S25 ?_ | refine S26 ?_ | refine S28 ?_ | refine S29 ?_ | refine S30 ?_ | refine S31 ?_ | refine S34 ?_ | refine S36 ?_ | refine S37 ?_ | refine S38 ?_ | refine S39 ?_ | refine S40 ?_ | refine S41 ?_ | refine S44 ?_ | refine S49 ?_ | refine S67 ?_ | refine S77 ?_)
      refine Scall (args := []) ke ?_
      repeat (first | refine S0 ?_ | refine S1 ?_ | refine S2 ?_ | refine S3 ?_ | refine S4 ?_ | refine S5 ?_ | refine S6 ?_ | refine S7 ?_ | refine S8 ?_ | refine S9 ?_ | refine S10 ?_ | refine S11 ?_ | refine S12 ?_ | refine S13 ?_ | refine S15 ?_ | refine S16 ?_ | refine S19 ?_ | refine S20 ?_ | refine S21 ?_ | refine S22 ?_ | refine S23 ?_ | refine S25 ?_ | refine S26 ?_ | refine S28 ?_ | refine S29 ?_ | refine S30 ?_ | refine S31 ?_ | refine S34 ?_ | refine S36 ?_ | refine S37 ?_ | refine S38 ?_ | refine S39 ?_ | refine S40 ?_ | refine S41 ?_ | refine S44 ?_ | refine S49 ?_ | refine S67 ?_ | refine S77 ?_)
      refine Scall (args := [pint n, pli a, pli b]) kg ?_
      repeat (first | refine S0 ?_ | refine S1 ?_ | refine S2 ?_ | refine S3 ?_ | refine S4 ?_ | refine S5 ?_ | refine S6 ?_ | refine S7 ?_ | refine S8 ?_ | refine S9 ?_ | refine S10 ?_ | refine S11 ?_ | refine S12 ?_ | refine S13 ?_ | refine S15 ?_ | refine S16 ?_ | refine S19 ?_ | refine S20 ?_ | refine S21 ?_ | refine S22 ?_ | refine S23 ?_ | refine S25 ?_ | refine S26 ?_ | refine S28 ?_ | refine S29 ?_ | refine S30 ?_ | refine S31 ?_ | refine S34 ?_ | refine S36 ?_ | refine S37 ?_ | refine S38 ?_ | refine S39 ?_ | refine S40 ?_ | refine S41 ?_ | refine S44 ?_ | refine S49 ?_ | refine S67 ?_ | refine S77 ?_)
      exact ⟨.inr rfl, .cl rfl⟩
  · have kg := gequal_bad (n := n) (a := a) (b := b) (fun h => h0 h.1)
    rw [if_neg h0] at kg
    generalize bF n a = y at *
    refine SC.go {} tok mixed Try.func9 rfl rfl Try.ntmps9 rfl rfl (by kernel_rfl) ?_
    first | simp only [updS] | simp only [updL, Nat.reduceAdd]
    repeat (first | refine S0 ?_ | refine S1 ?_ | refine S2 ?_ | refine S3 ?_ | refine S4 ?_ | refine S5 ?_ | refine S6 ?_ | refine S7 ?_ | refine S8 ?_ | refine S9 ?_ | refine S10 ?_ | refine S11 ?_ | refine S12 ?_ | refine S13 ?_ | refine S15 ?_ | refine S16 ?_ | refine S19 ?_ | refine S20 ?_ | refine S21 ?_ | refine S22 ?_ | refine S23 ?_ | refine S25 ?_ | refine S26 ?_ | refine S28 ?_ | refine S29 ?_ | refine S30 ?_ | refine S31 ?_ | refine S34 ?_ | refine S36 ?_ | refine S37 ?_ | refine S38 ?_ | refine S39 ?_ | refine S40 ?_ | refine S41 ?_ | refine S44 ?_ | refine S49 ?_ | refine S67 ?_ | refine S77 ?_)
    refine Scall (args := [pint n, pli a]) kfa ?_
    repeat (first | refine S0 ?_ | refine S1 ?_ | refine S2 ?_ | refine S3 ?_ | refine S4 ?_ | refine S5 ?_ | refine S6 ?_ | refine S7 ?_ | refine S8 ?_ | refine S9 ?_ | refine S10 ?_ | refine S11 ?_ | refine S12 ?_ | refine S13 ?_ | refine S15 ?_ | refine S16 ?_ | refine S19 ?_ | refine S20 ?_ | refine S21 ?_ | refine S22 ?_ | refine S23 ?_ | refine S25 ?_ | refine S26 ?_ | refine S28 ?_ | refine S29 ?_ | refine S30 ?_ | refine S31 ?_ | refine S34 ?_ | refine S36 ?_ | refine S37 ?_ | refine S38 ?_ | refine S39 ?_ | refine S40 ?_ | refine S41 ?_ | refine S44 ?_ | refine S49 ?_ | refine S67 ?_ | refine S77 ?_)
    refine Scall (args := []) ke ?_
    repeat (first | refine S0 ?_ | refine S1 ?_ | refine S2 ?_ | refine S3 ?_ | refine S4 ?_ | refine S5 ?_ | refine S6 ?_ | refine S7 ?_ | refine S8 ?_ | refine S9 ?_ | refine S10 ?_ | refine S11 ?_ | refine S12 ?_ | refine S13 ?_ | refine S15 ?_ | refine S16 ?_ | refine S19 ?_ | refine S20 ?_ | refine S21 ?_ | refine S22 ?_ | refine S23 ?_ | refine S25 ?_ | refine S26 ?_ | refine S28 ?_ | refine S29 ?_ | refine S30 ?_ | refine S31 ?_ | refine S34 ?_ | refine S36 ?_ | refine S37 ?_ | refine S38 ?_ | refine S39 ?_ | refine S40 ?_ | refine S41 ?_ | refine S44 ?_ | refine S49 ?_ | refine S67 ?_ | refine S77 ?_)
    refine Scall (args := [pint n, pli a, pli b]) kg ?_
    repeat (first | refine S0 ?_ | refine S1 ?_ | refine S2 ?_ | refine S3 ?_ | refine S4 ?_ | refine S5 ?_ | refine S6 ?_ | refine S7 ?_ | refine S8 ?_ | refine S9 ?_ | refine S10 ?_ | refine S11 ?_ | refine S12 ?_ | refine S13 ?_ | refine S15 ?_ | refine S16 ?_ | refine S19 ?_ | refine S20 ?_ | refine S21 ?_ | refine S22 ?_ | refine S23 ?_ | refine S25 ?_ | refine S26 ?_ | refine S28 ?_ | refine S29 ?_ | refine S30 ?_ | refine S31 ?_ | refine S34 ?_ | refine S36 ?_ | refine S37 ?_ | refine S38 ?_ | refine S39 ?_ | refine S40 ?_ | refine S41 ?_ | refine S44 ?_ | refine S49 ?_ | refine S67 ?_ | refine S77 ?_)
    exact ⟨.inr rfl, .cl rfl⟩
end Go.Proofs.Ytgjfpmjllpgadaa
