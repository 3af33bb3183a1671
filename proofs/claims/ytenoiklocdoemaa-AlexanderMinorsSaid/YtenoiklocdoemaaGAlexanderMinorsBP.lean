/- The Burau matrix of the reference: Unit, Product, Burau. No condition of its own. -/
import Derived.Test.YtenoiklocdoemaaGAlexanderMinorsBK
import Derived.Test.YtenoiklocdoemaaGAlexanderMinorsBH
import Derived.Test.YtenoiklocdoemaaGAlexanderMinorsBO
import Derived.Test.YtenoiklocdoemaaGAlexanderMinorsBI
set_option linter.unusedVariables false
set_option linter.unusedSimpArgs false
namespace Go.Proofs.Ytenoiklocdoemaa
open Go.RowKit

/-- the outer slice: k rows are there -/
def outM (n : Nat) (tk : Nat → Nat) (k : Nat) : List PV := (List.range n).map fun j => if j < k then PV.ref (tk j) 0 1 n else .lst true 0 0 []
theorem outM_len (n : Nat) (tk : Nat → Nat) (k : Nat) : (outM n tk k).length = n := by simp [outM]
theorem outM_get {n : Nat} {tk : Nat → Nat} {k j : Nat} (h : j < k) (hn : j < n) : (outM n tk k)[j]? = some (.ref (tk j) 0 1 n) := by simp [outM, hn, h]
theorem outM_set {n : Nat} {tk : Nat → Nat} {k T : Nat} (h : k < n) : (outM n tk k).set k (.ref T 0 1 n) = outM n (fun j => if j = k then T else tk j) (k + 1) := by
  apply List.ext_getElem (by simp [outM])
  intro j g1 g2
  rw [List.getElem_set]
  simp only [outM, List.getElem_map, List.getElem_range]
  by_cases e : k = j
  · subst e; rw [if_pos rfl, if_pos (by omega), if_pos rfl]
  · rw [if_neg e]
    by_cases h2 : j < k
    · rw [if_pos h2, if_pos (by omega), if_neg (fun e2 => e e2.symm)]
    · rw [if_neg h2, if_neg (by omega)]
/-- k rows of single cells lie in blocks of their own -/
structure RowsM (n k T : Nat) (tk : Nat → Nat) (rows : Nat → List PV) (h : HP) : Prop where
  out : h.blk T = some (outM n tk k)
  row : ∀ j, j < k → h.blk (tk j) = some (rows j)
  inj : ∀ i j, i < k → j < k → tk i = tk j → i = j
  ne : ∀ j, j < k → tk j ≠ T
  ev : ∀ j, j < k → tk j % 2 = 0
  evT : T % 2 = 0
  lt : ∀ j, j < k → tk j < 2 * h.next
  ltT : T < 2 * h.next
theorem RowsM.keep {n k T : Nat} {tk : Nat → Nat} {rows : Nat → List PV} {h h' : HP} (H : RowsM n k T tk rows h) (hn : h.next ≤ h'.next) (hb : ∀ t, t % 2 = 0 → t < 2 * h.next → h'.blk t = h.blk t) : RowsM n k T tk rows h' :=
  ⟨by rw [hb T H.evT H.ltT]; exact H.out, fun j hj => by rw [hb _ (H.ev j hj) (H.lt j hj)]; exact H.row j hj, H.inj, H.ne, H.ev, H.evT, fun j hj => by have := H.lt j hj; omega, by have := H.ltT; omega⟩
theorem RowsM.turn {n k T : Nat} {tk : Nat → Nat} {rows rows' : Nat → List PV} {h h' : HP} (H : RowsM n k T tk rows h) {j : Nat} (hj : j < k) (hn : h.next ≤ h'.next) (h1 : h'.blk (tk j) = some (rows' j)) (hb : ∀ t, t % 2 = 0 → t < 2 * h.next → t ≠ tk j → h'.blk t = h.blk t) (h2 : ∀ i, i < k → i ≠ j → rows' i = rows i) : RowsM n k T tk rows' h' := by
  refine ⟨?_, fun i hi => ?_, H.inj, H.ne, H.ev, H.evT, fun i hi => by have := H.lt i hi; omega, by have := H.ltT; omega⟩
  · rw [hb T H.evT H.ltT (fun e => H.ne j hj e.symm)]; exact H.out
  · by_cases e : i = j
    · subst e; exact h1
    · rw [h2 i hi e, hb _ (H.ev i hi) (H.lt i hi) (fun e2 => e (H.inj i j hi hj e2))]
      exact H.row i hi
theorem RowsM.cong {n k T : Nat} {tk : Nat → Nat} {rows rows' : Nat → List PV} {h : HP} (H : RowsM n k T tk rows h) (e : ∀ j, j < k → rows j = rows' j) : RowsM n k T tk rows' h :=
  ⟨H.out, fun j hj => by rw [← e j hj]; exact H.row j hj, H.inj, H.ne, H.ev, H.evT, H.lt, H.ltT⟩
theorem RowsM.push {n k T T' : Nat} {tk tk2 : Nat → Nat} {rows : Nat → List PV} {h h' : HP} (R : RowsM n k T tk rows h) (ev : T' % 2 = 0) (hT' : 2 * h.next ≤ T') (hlt : T' < 2 * h'.next) (hn : h.next ≤ h'.next) (ho : h'.blk T = some (outM n tk2 (k + 1))) (hr : h'.blk T' = some (rows k))
    (hb : ∀ t, t % 2 = 0 → t < 2 * h.next → t ≠ T → h'.blk t = h.blk t) (t2k : tk2 k = T') (t2o : ∀ j, j < k → tk2 j = tk j) : RowsM n (k + 1) T tk2 rows h' := by
  have hl := R.ltT
  refine ⟨ho, fun j hj => ?_, fun i j hi hj e => ?_, fun j hj => ?_, fun j hj => ?_, R.evT, fun j hj => ?_, by omega⟩
  · by_cases e : j = k
    · subst e; rw [t2k]; exact hr
    · have hj2 : j < k := by omega
      rw [t2o j hj2, hb _ (R.ev j hj2) (R.lt j hj2) (R.ne j hj2)]
      exact R.row j hj2
  · by_cases e1 : i = k
    · by_cases e2 : j = k
      · omega
      · have g := R.lt j (by omega)
        rw [e1, t2k, t2o j (by omega)] at e; omega
    · by_cases e2 : j = k
      · have g := R.lt i (by omega)
        rw [e2, t2k, t2o i (by omega)] at e; omega
      · rw [t2o i (by omega), t2o j (by omega)] at e
        exact R.inj i j (by omega) (by omega) e
  · by_cases e : j = k
    · rw [e, t2k]; omega
    · rw [t2o j (by omega)]; exact R.ne j (by omega)
  · by_cases e : j = k
    · rw [e, t2k]; exact ev
    · rw [t2o j (by omega)]; exact R.ev j (by omega)
  · by_cases e : j = k
    · rw [e, t2k]; exact hlt
    · rw [t2o j (by omega)]; have := R.lt j (by omega); omega
/-- a row in cells -/
def rowT (F : Nat → Nat → Tm) (n r : Nat) : List PV := (List.range n).map fun c => ptm (F r c)
theorem rowT_len (F : Nat → Nat → Tm) (n r : Nat) : (rowT F n r).length = n := by simp [rowT]
theorem rowT_set {F G : Nat → Nat → Tm} {n r c : Nat} {f : Tm} (h1 : G r c = f) (h2 : ∀ d, d < n → d ≠ c → G r d = F r d) : (rowT F n r).set c (ptm f) = rowT G n r := by
  apply List.ext_getElem (by simp [rowT])
  intro d g1 g2
  rw [List.getElem_set]
  simp only [rowT, List.getElem_map, List.getElem_range]
  by_cases e : c = d
  · subst e; rw [if_pos rfl, h1]
  · rw [if_neg e, h2 d (by simpa [rowT] using g2) (fun h => e h.symm)]
/-- a row that is being made -/
def rowU (n k : Nat) : List PV := (List.range n).map fun c => if c < k then ptm tm0 else .sc (.map none)
theorem rowU_len (n k : Nat) : (rowU n k).length = n := by simp [rowU]
theorem rowU_set {n k : Nat} (h : k < n) : (rowU n k).set k (ptm tm0) = rowU n (k + 1) := by
  apply List.ext_getElem (by simp [rowU])
  intro d g1 g2
  rw [List.getElem_set]
  simp only [rowU, List.getElem_map, List.getElem_range]
  by_cases e : k = d
  · subst e; rw [if_pos rfl, if_pos (by omega)]
  · rw [if_neg e]
    by_cases h2 : d < k
    · rw [if_pos h2, if_pos (by omega)]
    · rw [if_neg h2, if_neg (by omega)]
theorem rowU_all (n r : Nat) : rowU n n = rowT (fun _ _ => tm0) n r := List.map_congr_left fun c hc => if_pos (List.mem_range.1 hc)
theorem rowU_0 (n : Nat) : List.replicate n (PV.sc (.map none)) = rowU n 0 := List.ext_getElem (by simp [rowU]) (fun j g1 g2 => by simp [rowU])
set_option maxHeartbeats 16000000 in
set_option maxRecDepth 100000 in
theorem unit_e {n : Nat} (hn : n ≤ 6) (h : HP) : SChE Try.prog 34 [pint n] h (fun r h' => ∃ T tk, r = .ref T 0 1 n ∧ RowsM n n T tk (rowT unitT n) h' ∧ Fr [] h h' ∧ (∀ j, j < n → 2 * h.next ≤ tk j) ∧ 2 * h.next ≤ T) := by
  refine SChE.go {} tok mixed Try.func34 rfl rfl Try.ntmps34 rfl rfl (by kernel_rfl) (fun hw0 => ?_)
  first | simp only [updS] | simp only [updL, Nat.reduceAdd]
  repeat (first | refine S0 ?_ | refine S1 ?_ | refine S2 ?_ | refine S4 ?_ | refine S5 ?_ | refine S6 ?_ | refine S7 ?_ | refine S8 ?_ | refine S10 ?_ | refine S13 ?_ | refine S15 ?_ | refine S16 ?_ | refine S19 ?_ | refine S20 ?_ | refine S21 ?_ | refine S22 ?_ | refine S24 ?_ | refine S27 ?_ | refine S72 ?_ | refine S79 ?_ | refine S82 ?_)
  obtain ⟨T, hT⟩ : ∃ T, T = h.tok false := ⟨_, rfl⟩
  have hTe : T % 2 = 0 := by rw [hT]; exact HP.tok_even _
  have hTn : T = 2 * h.next := by rw [hT, HP.tokF]
  rw [← hT]
  refine CW.loopS (fun i : Nat × (Nat → Nat) => i.1 ≤ n) (fun i => [(0, pint n), (3, .ref T 0 1 n), (8, .ref T 0 1 n), (9, pint n), (10, pint i.1)])
    (fun i hp => RowsM n i.1 T i.2 (rowT unitT n) hp ∧ Fr [] h hp ∧ ∀ j, j < i.1 → 2 * h.next ≤ i.2 j) (fun i => n - i.1) (0, fun _ => 0) ⟨Nat.zero_le _, ?_, ?_⟩ ?_
  · exact SLx
  · dsimp only
    have hb0 : (h.add false (List.replicate n (PV.lst true 0 0 []))).blk T = some (outM n (fun _ => 0) 0) := by
      rw [hT, HP.add_same]
      exact congrArg some (List.ext_getElem (by simp [outM]) (fun j g1 g2 => by simp [outM]))
    exact ⟨⟨hb0, fun j hj => absurd hj (Nat.not_lt_zero _), fun _ _ hj => absurd hj (Nat.not_lt_zero _), fun _ hj => absurd hj (Nat.not_lt_zero _), fun _ hj => absurd hj (Nat.not_lt_zero _), hTe, fun _ hj => absurd hj (Nat.not_lt_zero _), by rw [HP.next_add]; omega⟩, (Fr.refl [] h).add _ _, fun _ hj => absurd hj (Nat.not_lt_zero _)⟩
  rintro ⟨k, tk⟩ t h1 hk ⟨R, F, G⟩
  simp only at hk R G
  first | simp only [updS] | simp only [updL, Nat.reduceAdd]
  by_cases hk2 : k < n
  · have b0 := R.out
    have l0 := R.ltT
    repeat (first | refine S0 ?_ | refine S1 ?_ | refine S2 ?_ | refine S4 ?_ | refine S5 ?_ | refine S6 ?_ | refine S7 ?_ | refine S8 ?_ | refine S10 ?_ | refine S13 ?_ | refine S15 ?_ | refine S16 ?_ | refine S19 ?_ | refine S20 ?_ | refine S21 ?_ | refine S22 ?_ | refine S24 ?_ | refine S27 ?_ | refine S72 ?_ | refine S79 ?_ | refine S82 ?_)
    obtain ⟨T', hT'⟩ : ∃ T', T' = h1.tok false := ⟨_, rfl⟩
    have hTn' : T' = 2 * h1.next := by rw [hT', HP.tokF]
    have hTe' : T' % 2 = 0 := by omega
    rw [← hT']
    have hne : T' ≠ T := by omega
    rw [show 0 + (k : Int).toNat * 1 = k by simp]
    obtain ⟨tk2, htk2⟩ : ∃ tk2 : Nat → Nat, tk2 = fun j => if j = k then T' else tk j := ⟨_, rfl⟩
    have t2k : tk2 k = T' := by rw [htk2]; exact if_pos rfl
    have t2o : ∀ j, j < k → tk2 j = tk j := fun j hj => by rw [htk2]; exact if_neg (by omega)
    have hset := outM_set (tk := tk) (T := T') hk2
    rw [← htk2] at hset
    refine AW.stR (r := outM n tk2 (k + 1)) EVx (by first | exact Or.inl rfl | exact Or.inr ⟨rfl, HP.tok_even _⟩ | exact Or.inr (Or.inl ⟨rfl, HP.tok_even _⟩) | exact Or.inr (Or.inr ⟨rfl, HP.tok_odd _⟩) | exact Or.inr (Or.inl rfl) | exact Or.inr (Or.inr (Or.inl rfl)) | exact Or.inr (Or.inr (Or.inr (Or.inl ⟨rfl, HP.tok_odd _⟩))) | exact Or.inr (Or.inr (Or.inr (Or.inr ⟨rfl, HP.tok_even _⟩))) | exact Or.inr (Or.inr (Or.inr (Or.inr ⟨rfl, by assumption⟩))) | exact Or.inr ⟨rfl, by assumption⟩ | exact Or.inr (Or.inl ⟨rfl, by assumption⟩) | exact Or.inr (Or.inr ⟨rfl, by assumption⟩) | exact Or.inr (Or.inr (Or.inr (Or.inl ⟨rfl, by assumption⟩))) | exact Or.inr (Or.inr (Or.inl ⟨rfl, HP.tok_odd _⟩)) | exact Or.inr (Or.inr (Or.inl ⟨rfl, by assumption⟩)) | exact Or.inr (Or.inr (Or.inr rfl)) | exact Or.inr (Or.inr rfl) | exact Or.inr rfl) EVx rfl ((HP.add_other _ _ _ (fun e => by rw [← hT'] at e; omega)).trans b0) (by rw [outM_len]; omega) rfl hset ?_
    obtain ⟨X, hX⟩ : ∃ X, X = (h1.add false (List.replicate n (ofConst.ofCell (Value.map none)))).set T (outM n tk2 (k + 1)) := ⟨_, rfl⟩
    have hXn : X.next = h1.next + 1 := by rw [hX]; rfl
    have hXT : X.blk T = some (outM n tk2 (k + 1)) := by rw [hX]; exact HP.set_same _ _ _
    have hXT' : X.blk T' = some (rowU n 0) := by
      rw [hX]
      refine (HP.set_other _ _ hne).trans ?_
      rw [hT', HP.add_same]
      exact congrArg some (rowU_0 n)
    have hXb : ∀ t, t % 2 = 0 → t < 2 * h1.next → t ≠ T → X.blk t = h1.blk t := fun t _ h2 h3 => by rw [hX]; exact (HP.set_other _ _ h3).trans (HP.add_other _ _ _ (by rw [← hT']; omega))
    have hFn := F.next
    have hXF : Fr [] h X := by rw [hX]; exact (F.add _ _).set _ (.inr (by omega))
    rw [← hX]
    clear hX
    repeat (first | refine S0 ?_ | refine S1 ?_ | refine S2 ?_ | refine S4 ?_ | refine S5 ?_ | refine S6 ?_ | refine S7 ?_ | refine S8 ?_ | refine S10 ?_ | refine S13 ?_ | refine S15 ?_ | refine S16 ?_ | refine S19 ?_ | refine S20 ?_ | refine S21 ?_ | refine S22 ?_ | refine S24 ?_ | refine S27 ?_ | refine S72 ?_ | refine S79 ?_ | refine S82 ?_)
    refine CW.loopS (fun c : Nat => c ≤ n) (fun c => [(0, pint n), (3, .ref T 0 1 n), (8, .ref T 0 1 n), (9, pint n), (10, pint k), (4, pint k), (18, pint n), (19, pint c)])
      (fun c hp => hp.blk T = some (outM n tk2 (k + 1)) ∧ hp.blk T' = some (rowU n c) ∧ (∀ t, t % 2 = 0 → t < 2 * h1.next → t ≠ T → hp.blk t = h1.blk t) ∧ Fr [] h hp ∧ h1.next + 1 ≤ hp.next) (fun c => n - c) 0 ⟨Nat.zero_le _, SLx, ?_⟩ ?_
    · exact ⟨hXT, hXT', hXb, hXF, Nat.le_of_eq hXn.symm⟩
    clear hXT hXT' hXb hXF hXn X t
    rintro c t h2 hc ⟨bT, bT', hb, F2, n2⟩
    first | simp only [updS] | simp only [updL, Nat.reduceAdd]
    by_cases hc2 : c < n
    · repeat (first | refine S0 ?_ | refine S1 ?_ | refine S2 ?_ | refine S4 ?_ | refine S5 ?_ | refine S6 ?_ | refine S7 ?_ | refine S8 ?_ | refine S10 ?_ | refine S13 ?_ | refine S15 ?_ | refine S16 ?_ | refine S19 ?_ | refine S20 ?_ | refine S21 ?_ | refine S22 ?_ | refine S24 ?_ | refine S27 ?_ | refine S72 ?_ | refine S79 ?_ | refine S82 ?_)
      rw [show 0 + (k : Int).toNat * 1 = k by simp]
      refine AW.ldm EVx (by first | exact Or.inl rfl | exact Or.inr ⟨rfl, HP.tok_even _⟩ | exact Or.inr (Or.inl ⟨rfl, HP.tok_even _⟩) | exact Or.inr (Or.inr ⟨rfl, HP.tok_odd _⟩) | exact Or.inr (Or.inl rfl) | exact Or.inr (Or.inr (Or.inl rfl)) | exact Or.inr (Or.inr (Or.inr (Or.inl ⟨rfl, HP.tok_odd _⟩))) | exact Or.inr (Or.inr (Or.inr (Or.inr ⟨rfl, HP.tok_even _⟩))) | exact Or.inr (Or.inr (Or.inr (Or.inr ⟨rfl, by assumption⟩))) | exact Or.inr ⟨rfl, by assumption⟩ | exact Or.inr (Or.inl ⟨rfl, by assumption⟩) | exact Or.inr (Or.inr ⟨rfl, by assumption⟩) | exact Or.inr (Or.inr (Or.inr (Or.inl ⟨rfl, by assumption⟩))) | exact Or.inr (Or.inr (Or.inl ⟨rfl, HP.tok_odd _⟩)) | exact Or.inr (Or.inr (Or.inl ⟨rfl, by assumption⟩)) | exact Or.inr (Or.inr (Or.inr rfl)) | exact Or.inr (Or.inr rfl) | exact Or.inr rfl) rfl bT (outM_get (k := k + 1) (by omega) hk2) ?_
      rw [t2k]
      repeat (first | refine S0 ?_ | refine S1 ?_ | refine S2 ?_ | refine S4 ?_ | refine S5 ?_ | refine S6 ?_ | refine S7 ?_ | refine S8 ?_ | refine S10 ?_ | refine S13 ?_ | refine S15 ?_ | refine S16 ?_ | refine S19 ?_ | refine S20 ?_ | refine S21 ?_ | refine S22 ?_ | refine S24 ?_ | refine S27 ?_ | refine S72 ?_ | refine S79 ?_ | refine S82 ?_)
      rw [show 0 + (c : Int).toNat * 1 = c by simp]
      refine AW.stR (r := (rowU n c).set c (.mref (h2.tok true))) EVx (by first | exact Or.inl rfl | exact Or.inr ⟨rfl, HP.tok_even _⟩ | exact Or.inr (Or.inl ⟨rfl, HP.tok_even _⟩) | exact Or.inr (Or.inr ⟨rfl, HP.tok_odd _⟩) | exact Or.inr (Or.inl rfl) | exact Or.inr (Or.inr (Or.inl rfl)) | exact Or.inr (Or.inr (Or.inr (Or.inl ⟨rfl, HP.tok_odd _⟩))) | exact Or.inr (Or.inr (Or.inr (Or.inr ⟨rfl, HP.tok_even _⟩))) | exact Or.inr (Or.inr (Or.inr (Or.inr ⟨rfl, by assumption⟩))) | exact Or.inr ⟨rfl, by assumption⟩ | exact Or.inr (Or.inl ⟨rfl, by assumption⟩) | exact Or.inr (Or.inr ⟨rfl, by assumption⟩) | exact Or.inr (Or.inr (Or.inr (Or.inl ⟨rfl, by assumption⟩))) | exact Or.inr (Or.inr (Or.inl ⟨rfl, HP.tok_odd _⟩)) | exact Or.inr (Or.inr (Or.inl ⟨rfl, by assumption⟩)) | exact Or.inr (Or.inr (Or.inr rfl)) | exact Or.inr (Or.inr rfl) | exact Or.inr rfl) EVx rfl bT' (by rw [rowU_len]; omega) rfl rfl ?_
      refine AW.nil ?_
      refine BQ.nm ?_
      refine TQ.nm ?_
      refine CW.freezeMC T' c (tk := h2.tok true) (m := mi fun _ => none) (HP.set_same _ _ _) (List.getElem?_set_self (by rw [rowU_len]; exact hc2)) (HP.addS_same _ _ _) (r := rowU n (c + 1)) (by rw [List.set_set]; exact rowU_set hc2) ?_
      repeat (first | refine S0 ?_ | refine S1 ?_ | refine S2 ?_ | refine S4 ?_ | refine S5 ?_ | refine S6 ?_ | refine S7 ?_ | refine S8 ?_ | refine S10 ?_ | refine S13 ?_ | refine S15 ?_ | refine S16 ?_ | refine S19 ?_ | refine S20 ?_ | refine S21 ?_ | refine S22 ?_ | refine S24 ?_ | refine S27 ?_ | refine S72 ?_ | refine S79 ?_ | refine S82 ?_)
      have hF2 := F2.next
      refine ⟨c + 1, by omega, SLx, ⟨(HP.set_other _ _ hne.symm).trans ((HP.set_other _ _ hne.symm).trans bT), HP.set_same _ _ _, fun q q1 q2 q3 => (HP.set_other _ _ (by omega)).trans ((HP.set_other _ _ (by omega)).trans (hb q q1 q2 q3)), (((F2.addS true _).set _ (.inr (by omega))).killS (.inr (by rw [HP.tokT]; omega))).set _ (.inr (by omega)), show h1.next + 1 ≤ h2.next + 1 by omega⟩, by omega⟩
    · obtain rfl : c = n := by omega
      repeat (first | refine S0 ?_ | refine S1 ?_ | refine S2 ?_ | refine S4 ?_ | refine S5 ?_ | refine S6 ?_ | refine S7 ?_ | refine S8 ?_ | refine S10 ?_ | refine S13 ?_ | refine S15 ?_ | refine S16 ?_ | refine S19 ?_ | refine S20 ?_ | refine S21 ?_ | refine S22 ?_ | refine S24 ?_ | refine S27 ?_ | refine S72 ?_ | refine S79 ?_ | refine S82 ?_)
      rw [show 0 + (k : Int).toNat * 1 = k by simp]
      refine AW.ldm EVx (by first | exact Or.inl rfl | exact Or.inr ⟨rfl, HP.tok_even _⟩ | exact Or.inr (Or.inl ⟨rfl, HP.tok_even _⟩) | exact Or.inr (Or.inr ⟨rfl, HP.tok_odd _⟩) | exact Or.inr (Or.inl rfl) | exact Or.inr (Or.inr (Or.inl rfl)) | exact Or.inr (Or.inr (Or.inr (Or.inl ⟨rfl, HP.tok_odd _⟩))) | exact Or.inr (Or.inr (Or.inr (Or.inr ⟨rfl, HP.tok_even _⟩))) | exact Or.inr (Or.inr (Or.inr (Or.inr ⟨rfl, by assumption⟩))) | exact Or.inr ⟨rfl, by assumption⟩ | exact Or.inr (Or.inl ⟨rfl, by assumption⟩) | exact Or.inr (Or.inr ⟨rfl, by assumption⟩) | exact Or.inr (Or.inr (Or.inr (Or.inl ⟨rfl, by assumption⟩))) | exact Or.inr (Or.inr (Or.inl ⟨rfl, HP.tok_odd _⟩)) | exact Or.inr (Or.inr (Or.inl ⟨rfl, by assumption⟩)) | exact Or.inr (Or.inr (Or.inr rfl)) | exact Or.inr (Or.inr rfl) | exact Or.inr rfl) rfl bT (outM_get (k := k + 1) (by omega) hk2) ?_
      rw [t2k]
      repeat (first | refine S0 ?_ | refine S1 ?_ | refine S2 ?_ | refine S4 ?_ | refine S5 ?_ | refine S6 ?_ | refine S7 ?_ | refine S8 ?_ | refine S10 ?_ | refine S13 ?_ | refine S15 ?_ | refine S16 ?_ | refine S19 ?_ | refine S20 ?_ | refine S21 ?_ | refine S22 ?_ | refine S24 ?_ | refine S27 ?_ | refine S72 ?_ | refine S79 ?_ | refine S82 ?_)
      rw [show 0 + (k : Int).toNat * 1 = k by simp]
      refine AW.stR (r := (rowU c c).set k (.mref (h2.tok true))) EVx (by first | exact Or.inl rfl | exact Or.inr ⟨rfl, HP.tok_even _⟩ | exact Or.inr (Or.inl ⟨rfl, HP.tok_even _⟩) | exact Or.inr (Or.inr ⟨rfl, HP.tok_odd _⟩) | exact Or.inr (Or.inl rfl) | exact Or.inr (Or.inr (Or.inl rfl)) | exact Or.inr (Or.inr (Or.inr (Or.inl ⟨rfl, HP.tok_odd _⟩))) | exact Or.inr (Or.inr (Or.inr (Or.inr ⟨rfl, HP.tok_even _⟩))) | exact Or.inr (Or.inr (Or.inr (Or.inr ⟨rfl, by assumption⟩))) | exact Or.inr ⟨rfl, by assumption⟩ | exact Or.inr (Or.inl ⟨rfl, by assumption⟩) | exact Or.inr (Or.inr ⟨rfl, by assumption⟩) | exact Or.inr (Or.inr (Or.inr (Or.inl ⟨rfl, by assumption⟩))) | exact Or.inr (Or.inr (Or.inl ⟨rfl, HP.tok_odd _⟩)) | exact Or.inr (Or.inr (Or.inl ⟨rfl, by assumption⟩)) | exact Or.inr (Or.inr (Or.inr rfl)) | exact Or.inr (Or.inr rfl) | exact Or.inr rfl) EVx rfl bT' (by rw [rowU_len]; omega) rfl rfl ?_
      refine AW.nil ?_
      refine BQ.nm ?_
      refine TQ.nm ?_
      refine CW.freezeMC T' k (tk := h2.tok true) (m := mi (t1 0 1)) (HP.set_same _ _ _) (List.getElem?_set_self (by rw [rowU_len]; exact hk2)) (HP.setS_same _ _ _) (r := rowT unitT c k) (by
        rw [List.set_set, rowU_all c k]
        exact rowT_set (if_pos rfl) (fun d _ hd => if_neg (fun e => hd e.symm))) ?_
      repeat (first | refine S0 ?_ | refine S1 ?_ | refine S2 ?_ | refine S4 ?_ | refine S5 ?_ | refine S6 ?_ | refine S7 ?_ | refine S8 ?_ | refine S10 ?_ | refine S13 ?_ | refine S15 ?_ | refine S16 ?_ | refine S19 ?_ | refine S20 ?_ | refine S21 ?_ | refine S22 ?_ | refine S24 ?_ | refine S27 ?_ | refine S72 ?_ | refine S79 ?_ | refine S82 ?_)
      have hF2 := F2.next
      have hr' : ∀ (Y : HP), Y.next = h2.next + 1 → (∀ t, t % 2 = 0 → t ≠ T' → Y.blk t = h2.blk t) → Y.blk T' = some (rowT unitT c k) → RowsM c (k + 1) T tk2 (rowT unitT c) Y := fun Y y1 y2 y3 =>
        R.push hTe' (by omega) (by omega) (by omega) ((y2 T hTe hne.symm).trans bT) y3 (fun q q1 q2 q3 => (y2 q q1 (by omega)).trans (hb q q1 q2 q3)) t2k t2o
      refine ⟨(k + 1, tk2), by simp only; omega, SLx, ⟨hr' _ rfl (fun q q1 q2 => ?_) (HP.set_same _ _ _), ?_, fun j hj => ?_⟩, by simp only; omega⟩
      · exact (HP.set_other _ _ q2).trans ((HP.set_other _ _ q2).trans rfl)
      · exact ((((F2.addS true _).setS _ (.inr (by rw [HP.tokT]; omega))).set _ (.inr (by omega))).killS (.inr (by rw [HP.tokT]; omega))).set _ (.inr (by omega))
      · simp only at hj ⊢
        by_cases e : j = k
        · rw [e, t2k]; omega
        · rw [t2o j (by omega)]; exact G j (by omega)
  · obtain rfl : n = k := by omega
    repeat (first | refine S0 ?_ | refine S1 ?_ | refine S2 ?_ | refine S4 ?_ | refine S5 ?_ | refine S6 ?_ | refine S7 ?_ | refine S8 ?_ | refine S10 ?_ | refine S13 ?_ | refine S15 ?_ | refine S16 ?_ | refine S19 ?_ | refine S20 ?_ | refine S21 ?_ | refine S22 ?_ | refine S24 ?_ | refine S27 ?_ | refine S72 ?_ | refine S79 ?_ | refine S82 ?_)
    exact ⟨.inr rfl, [.ref T 0 1 n], ⟨[], rfl, rfl⟩, T, tk, rfl, R, F, G, by omega⟩
end Go.Proofs.Ytenoiklocdoemaa
