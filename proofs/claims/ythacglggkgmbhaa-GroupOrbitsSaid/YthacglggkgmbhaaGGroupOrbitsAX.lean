/- Rows of ints in blocks of their own. Nothing of the program is here. -/
import Derived.Test.YthacglggkgmbhaaGGroupOrbitsAW
set_option linter.unusedVariables false
set_option linter.unusedSimpArgs false
namespace Go.Proofs.Ythacglggkgmbhaa
open Go.RowKit

/-- one value is turned -/
def ovr {α : Type} (f : Nat → α) (i : Nat) (v : α) : Nat → α := fun j => if j = i then v else f j
theorem ovr_same {α : Type} (f : Nat → α) (i : Nat) (v : α) : ovr f i v i = v := if_pos rfl
theorem ovr_ne {α : Type} (f : Nat → α) {i j : Nat} (v : α) (h : j ≠ i) : ovr f i v j = f j := if_neg h
/-- the outer slice: of N rows k are there -/
def outI (N : Nat) (tk : Nat → Nat) (rows : Nat → List Int) (k : Nat) : List PV := (List.range N).map fun j => if j < k then PV.ref (tk j) 0 1 (rows j).length else .lst true 0 0 []
theorem outI_len (N : Nat) (tk : Nat → Nat) (rows : Nat → List Int) (k : Nat) : (outI N tk rows k).length = N := by simp [outI]
theorem outI_zero (N : Nat) (tk : Nat → Nat) (rows : Nat → List Int) : List.replicate N (PV.lst true 0 0 []) = outI N tk rows 0 := List.ext_getElem (by simp [outI]) (fun j g1 g2 => by simp [outI])
theorem outI_get {N : Nat} {tk : Nat → Nat} {rows : Nat → List Int} {k j : Nat} (h : j < k) (hn : j < N) : (outI N tk rows k)[j]? = some (.ref (tk j) 0 1 (rows j).length) := by simp [outI, hn, h]
theorem outI_set {N : Nat} {tk : Nat → Nat} {rows : Nat → List Int} {k T : Nat} {r : List Int} (h : k < N) : (outI N tk rows k).set k (.ref T 0 1 r.length) = outI N (ovr tk k T) (ovr rows k r) (k + 1) := by
  apply List.ext_getElem (by simp [outI])
  intro j g1 g2
  rw [List.getElem_set]
  simp only [outI, List.getElem_map, List.getElem_range]
  by_cases e : k = j
  · subst e; rw [if_pos rfl, if_pos (by omega), ovr_same, ovr_same]
  · rw [if_neg e]
    by_cases h2 : j < k
    · rw [if_pos h2, if_pos (by omega), ovr_ne _ _ (fun e2 => e e2.symm), ovr_ne _ _ (fun e2 => e e2.symm)]
    · rw [if_neg h2, if_neg (by omega)]
theorem outI_move {N : Nat} {tk : Nat → Nat} {rows : Nat → List Int} {k i T : Nat} {r : List Int} (h : i < k) : (outI N tk rows k).set i (.ref T 0 1 r.length) = outI N (ovr tk i T) (ovr rows i r) k := by
  apply List.ext_getElem (by simp [outI])
  intro j g1 g2
  rw [List.getElem_set]
  simp only [outI, List.getElem_map, List.getElem_range]
  by_cases e : i = j
  · subst e; rw [if_pos rfl, if_pos h, ovr_same, ovr_same]
  · rw [if_neg e, ovr_ne _ _ (fun e2 => e e2.symm), ovr_ne _ _ (fun e2 => e e2.symm)]
theorem outI_app {tk : Nat → Nat} {rows : Nat → List Int} {k T : Nat} {r : List Int} : outI k tk rows k ++ [.ref T 0 1 r.length] = outI (k + 1) (ovr tk k T) (ovr rows k r) (k + 1) := by
  unfold outI
  rw [List.range_succ, List.map_append, List.map_singleton, if_pos (by omega), ovr_same, ovr_same]
  congr 1
  refine List.map_congr_left (fun j hj => ?_)
  have := List.mem_range.1 hj
  rw [if_pos this, if_pos (by omega), ovr_ne _ _ (by omega), ovr_ne _ _ (by omega)]
/-- k rows lie in blocks of their own -/
structure RowsI (N k T : Nat) (tk : Nat → Nat) (rows : Nat → List Int) (h : HP) : Prop where
  out : h.blk T = some (outI N tk rows k)
  row : ∀ j, j < k → h.blk (tk j) = some (ints (rows j))
  inj : ∀ i j, i < k → j < k → tk i = tk j → i = j
  ne : ∀ j, j < k → tk j ≠ T
  ev : ∀ j, j < k → tk j % 2 = 0
  evT : T % 2 = 0
  lt : ∀ j, j < k → tk j < 2 * h.next
  ltT : T < 2 * h.next
theorem RowsI.start {N T : Nat} {rows : Nat → List Int} {h : HP} (hb : h.blk T = some (List.replicate N (PV.lst true 0 0 []))) (he : T % 2 = 0) (hl : T < 2 * h.next) : RowsI N 0 T (fun _ => 0) rows h :=
  ⟨by rw [hb, outI_zero N (fun _ => 0)], fun j hj => absurd hj (Nat.not_lt_zero _), fun _ _ hj => absurd hj (Nat.not_lt_zero _), fun _ hj => absurd hj (Nat.not_lt_zero _), fun _ hj => absurd hj (Nat.not_lt_zero _), he, fun _ hj => absurd hj (Nat.not_lt_zero _), hl⟩
/-- what is not touched stays -/
theorem RowsI.keep {N k T : Nat} {tk : Nat → Nat} {rows : Nat → List Int} {h h' : HP} (H : RowsI N k T tk rows h) (hn : h.next ≤ h'.next) (hb : ∀ t, (t = T ∨ ∃ j, j < k ∧ t = tk j) → h'.blk t = h.blk t) : RowsI N k T tk rows h' :=
  ⟨by rw [hb T (.inl rfl)]; exact H.out, fun j hj => by rw [hb _ (.inr ⟨j, hj, rfl⟩)]; exact H.row j hj, H.inj, H.ne, H.ev, H.evT, fun j hj => by have := H.lt j hj; omega, by have := H.ltT; omega⟩
theorem RowsI.fr {N k T : Nat} {tk : Nat → Nat} {rows : Nat → List Int} {h h' : HP} {X : List Nat} (H : RowsI N k T tk rows h) (f : Fr X h h') (h1 : T ∉ X) (h2 : ∀ j, j < k → tk j ∉ X) : RowsI N k T tk rows h' :=
  H.keep f.next (fun t ht => by
    rcases ht with rfl | ⟨j, hj, rfl⟩
    · exact f.blk _ H.ltT h1
    · exact f.blk _ (H.lt j hj) (h2 j hj))
/-- one row is turned in its place -/
theorem RowsI.turn {N k T : Nat} {tk : Nat → Nat} {rows : Nat → List Int} {h : HP} (H : RowsI N k T tk rows h) {j : Nat} (hj : j < k) {r : List Int} (hr : r.length = (rows j).length) : RowsI N k T tk (ovr rows j r) (h.set (tk j) (ints r)) := by
  refine ⟨?_, fun i hi => ?_, H.inj, H.ne, H.ev, H.evT, H.lt, H.ltT⟩
  · refine (HP.set_other _ _ (fun e => H.ne j hj e.symm)).trans (H.out.trans (congrArg some (List.map_congr_left (fun i hi => ?_))))
    by_cases e : i = j
    · subst e; rw [ovr_same, hr]
    · rw [ovr_ne _ _ e]
  · by_cases e : i = j
    · subst e; rw [ovr_same]; exact HP.set_same _ _ _
    · rw [ovr_ne _ _ e]
      exact (HP.set_other _ _ (fun e2 => e (H.inj i j hi hj e2))).trans (H.row i hi)
/-- a row at a new block: the i-th one -/
theorem RowsI.put {N k k2 N2 i T T2 T' : Nat} {tk : Nat → Nat} {rows : Nat → List Int} {h X : HP} (R : RowsI N k T tk rows h) (hk2 : ∀ j, j < k2 → j ≠ i → j < k) (ev : T' % 2 = 0) (hT' : 2 * h.next ≤ T') (hTn : T' < 2 * X.next) (hX : h.next ≤ X.next) (evT2 : T2 % 2 = 0) (hT2n : T2 < 2 * X.next) (hT2 : T2 ≠ T' ∧ ∀ j, j < k → tk j ≠ T2) {r : List Int} (hXT : X.blk T2 = some (outI N2 (ovr tk i T') (ovr rows i r) k2)) (hXb : ∀ j, j < k → j ≠ i → X.blk (tk j) = h.blk (tk j)) (hXr : X.blk T' = some (ints r)) :
    RowsI N2 k2 T2 (ovr tk i T') (ovr rows i r) X := by
  refine ⟨hXT, fun j hj => ?_, fun a b ha hb e => ?_, fun j hj => ?_, fun j hj => ?_, evT2, fun j hj => ?_, hT2n⟩
  · by_cases e : j = i
    · rw [e, ovr_same, ovr_same]; exact hXr
    · rw [ovr_ne _ _ e, ovr_ne _ _ e, hXb j (hk2 j hj e) e]; exact R.row j (hk2 j hj e)
  · by_cases e1 : a = i
    · by_cases e2 : b = i
      · omega
      · rw [e1, ovr_same, ovr_ne _ _ e2] at e
        have g := R.lt b (hk2 b hb e2)
        omega
    · by_cases e2 : b = i
      · rw [e2, ovr_same, ovr_ne _ _ e1] at e
        have g := R.lt a (hk2 a ha e1)
        omega
      · rw [ovr_ne _ _ e1, ovr_ne _ _ e2] at e
        exact R.inj a b (hk2 a ha e1) (hk2 b hb e2) e
  · by_cases e : j = i
    · rw [e, ovr_same]; exact fun h => hT2.1 h.symm
    · rw [ovr_ne _ _ e]; exact hT2.2 j (hk2 j hj e)
  · by_cases e : j = i
    · rw [e, ovr_same]; exact ev
    · rw [ovr_ne _ _ e]; exact R.ev j (hk2 j hj e)
  · by_cases e : j = i
    · rw [e, ovr_same]; omega
    · rw [ovr_ne _ _ e]; have := R.lt j (hk2 j hj e); omega
/-- one more row, at a new block -/
theorem RowsI.push {N k T T' : Nat} {tk : Nat → Nat} {rows : Nat → List Int} {h X : HP} (R : RowsI N k T tk rows h) (hk : k < N) (ev : T' % 2 = 0) (hT' : 2 * h.next ≤ T') (hTn : T' < 2 * X.next) (hX : h.next ≤ X.next) {r : List Int} (hXT : X.blk T = some ((outI N tk rows k).set k (.ref T' 0 1 r.length))) (hXb : ∀ j, j < k → X.blk (tk j) = h.blk (tk j)) (hXr : X.blk T' = some (ints r)) :
    RowsI N (k + 1) T (ovr tk k T') (ovr rows k r) X :=
  R.put (fun j hj e => by omega) ev hT' hTn hX R.evT (by have := R.ltT; omega) ⟨by have := R.ltT; omega, R.ne⟩ (by rw [hXT, outI_set hk]) (fun j hj _ => hXb j hj) hXr
/-- rows that are alike -/
theorem RowsI.cong {N k T : Nat} {tk : Nat → Nat} {rows rows' : Nat → List Int} {h : HP} (H : RowsI N k T tk rows h) (e : ∀ j, j < k → rows j = rows' j) : RowsI N k T tk rows' h :=
  ⟨H.out.trans (congrArg some (List.map_congr_left (fun j _ => by
    by_cases hj : j < k
    · rw [if_pos hj, if_pos hj, e j hj]
    · rw [if_neg hj, if_neg hj]))), fun j hj => by rw [← e j hj]; exact H.row j hj, H.inj, H.ne, H.ev, H.evT, H.lt, H.ltT⟩
/-- some rows are written no more -/
structure FzI (N T : Nat) (tk : Nat → Nat) (rows : Nat → List Int) (j : Nat) (h : HP) : Prop where
  out : h.blk T = some ((List.range N).map fun i => if i < j then pli (rows i) else PV.ref (tk i) 0 1 (rows i).length)
  row : ∀ i, j ≤ i → i < N → h.blk (tk i) = some (ints (rows i))
theorem CW.frzRowsI {P : Program} {TT : TypeId → TI} {M : Hn} {n : Nat} {c : Code} {t : Nat → PV} {Q : Exit → AS → Prop} {N T : Nat} {tk : Nat → Nat} {rows : Nat → List Int} (hT : T % 2 = 0) (hev : ∀ i, i < N → tk i % 2 = 0) (hne : ∀ i, i < N → tk i ≠ T) (hinj : ∀ i j, i < N → j < N → tk i = tk j → i = j)
    (X : List Nat) (hX : ∀ i, i < N → tk i ∈ X) (hXT : T ∈ X) {h0 : HP}
    (hk : ∀ h, FzI N T tk rows N h → Fr X h0 h → CW P TT M n c ⟨t, h⟩ Q) : ∀ (d j : Nat) (h : HP), j + d = N → FzI N T tk rows j h → Fr X h0 h → CW P TT M n c ⟨t, h⟩ Q
  | 0, j, h, hj, H, hf => by
    obtain rfl : j = N := by omega
    exact hk h H hf
  | d + 1, j, h, hj, H, hf => by
    have hjN : j < N := by omega
    have e1 := hne j hjN
    have e2 := hev j hjN
    refine CW.freezeC T j (tk := tk j) (off := 0) (sz := 1) (m := (rows j).length) H.out (by simp [hjN]) (H.row j (Nat.le_refl _) hjN) (by rw [ints_length]; omega) (fun e => e1 e.symm) (r := pli (rows j)) (by
      rw [List.drop_zero, Nat.mul_one, ints_take, List.take_length]; rfl) ?_
    refine CW.frzRowsI hT hev hne hinj X hX hXT hk d (j + 1) _ (by omega) ⟨?_, fun i hi hi2 => ?_⟩ ((hf.kill (.inl (hX j hjN))).set _ (.inl hXT))
    · refine (HP.set_same _ _ _).trans (congrArg some ?_)
      apply List.ext_getElem (by simp)
      intro k g1 g2
      rw [List.getElem_set]
      simp only [List.getElem_map, List.getElem_range]
      by_cases e : j = k
      · subst e; rw [if_pos rfl, if_pos (show j < j + 1 by omega)]
      · rw [if_neg e]
        by_cases h2 : k < j
        · rw [if_pos h2, if_pos (show k < j + 1 by omega)]
        · rw [if_neg h2, if_neg (show ¬ k < j + 1 by omega)]
    · exact (HP.set_other _ _ (hne i (by omega))).trans ((HP.kill_other _ (fun e => by have := hinj i j (by omega) hjN e; omega)).trans (H.row i (by omega) hi2))
theorem RowsI.fz {N T : Nat} {tk : Nat → Nat} {rows : Nat → List Int} {h : HP} (H : RowsI N N T tk rows h) : FzI N T tk rows 0 h :=
  ⟨by rw [H.out]; refine congrArg some (List.map_congr_left (fun i hi => ?_)); have := List.mem_range.1 hi; rw [if_pos this, if_neg (Nat.not_lt_zero _)], fun i _ hi => H.row i hi⟩
theorem FzI.all {N T : Nat} {tk : Nat → Nat} {rows : Nat → List Int} {h : HP} (H : FzI N T tk rows N h) : h.blk T = some (((List.range N).map rows).map pli) := by
  rw [H.out, List.map_map]
  refine congrArg some (List.map_congr_left (fun i hi => ?_))
  rw [if_pos (List.mem_range.1 hi)]; rfl
/-- ALL ROWS ARE WRITTEN NO MORE -/
theorem CW.frzR {P : Program} {TT : TypeId → TI} {M : Hn} {n : Nat} {c : Code} {t : Nat → PV} {Q : Exit → AS → Prop} {N T : Nat} {tk : Nat → Nat} {rows : Nat → List Int} {h : HP} (H : RowsI N N T tk rows h)
    (hk : ∀ h', h'.blk T = some (((List.range N).map rows).map pli) → Fr (T :: (List.range N).map tk) h h' → CW P TT M n c ⟨t, h'⟩ Q) : CW P TT M n c ⟨t, h⟩ Q :=
  CW.frzRowsI H.evT H.ev H.ne H.inj (T :: (List.range N).map tk) (fun i hi => List.mem_cons_of_mem _ (List.mem_map.2 ⟨i, List.mem_range.2 hi, rfl⟩)) (by simp) (fun h' H' f => hk h' H'.all f) N 0 h (by omega) H.fz (Fr.refl _ _)
end Go.Proofs.Ythacglggkgmbhaa
