/- alexander.Polynomial. No condition of its own. -/
import Derived.Test.YtenoiklocdoemaaGAlexanderMinorsBJ
import Derived.Test.YtenoiklocdoemaaGAlexanderMinorsBU
import Derived.Test.YtenoiklocdoemaaGAlexanderMinorsBW
import Derived.Test.YtenoiklocdoemaaGAlexanderMinorsBI
set_option linter.unusedVariables false
set_option linter.unusedSimpArgs false
namespace Go.Proofs.Ytenoiklocdoemaa
open Go.RowKit

/-- rows in blocks of their own; the slices of the first i are cut to q -/
structure RowsC (n q i T : Nat) (tk : Nat → Nat) (rows : Nat → List Po) (h : HP) : Prop where
  out : h.blk T = some ((List.range n).map fun j => PV.ref (tk j) 0 2 (if j < i then q else n))
  row : ∀ j, j < n → h.blk (tk j) = some (pos (rows j))
  inj : ∀ i j, i < n → j < n → tk i = tk j → i = j
  ne : ∀ j, j < n → tk j ≠ T
  ev : ∀ j, j < n → tk j % 2 = 0
  evT : T % 2 = 0
  lt : ∀ j, j < n → tk j < 2 * h.next
  ltT : T < 2 * h.next
theorem outQ_get {n q i j : Nat} (tk : Nat → Nat) (h : j < n) : ((List.range n).map fun j => PV.ref (tk j) 0 2 (if j < i then q else n))[j]? = some (.ref (tk j) 0 2 (if j < i then q else n)) := by simp [h]
theorem outQ_set {n q i : Nat} (tk : Nat → Nat) (h : i < n) : ((List.range n).map fun j => PV.ref (tk j) 0 2 (if j < i then q else n)).set i (.ref (tk i) 0 2 q) = (List.range n).map fun j => PV.ref (tk j) 0 2 (if j < i + 1 then q else n) := by
  apply List.ext_getElem (by simp)
  intro j g1 g2
  rw [List.getElem_set]
  simp only [List.getElem_map, List.getElem_range]
  by_cases e : i = j
  · subst e; rw [if_pos rfl, if_pos (by omega)]
  · rw [if_neg e]
    by_cases h2 : j < i
    · rw [if_pos h2, if_pos (by omega)]
    · rw [if_neg h2, if_neg (by omega)]
theorem RowsC.keep {n q i T : Nat} {tk : Nat → Nat} {rows : Nat → List Po} {h h' : HP} (H : RowsC n q i T tk rows h) (hn : h.next ≤ h'.next) (hb : ∀ t, t % 2 = 0 → t < 2 * h.next → h'.blk t = h.blk t) : RowsC n q i T tk rows h' :=
  ⟨by rw [hb T H.evT H.ltT]; exact H.out, fun j hj => by rw [hb _ (H.ev j hj) (H.lt j hj)]; exact H.row j hj, H.inj, H.ne, H.ev, H.evT, fun j hj => by have := H.lt j hj; omega, by have := H.ltT; omega⟩
theorem RowsC.turn {n q i T : Nat} {tk : Nat → Nat} {rows rows' : Nat → List Po} {h h' : HP} (H : RowsC n q i T tk rows h) {j : Nat} (hj : j < n) (hn : h.next ≤ h'.next) (h1 : h'.blk (tk j) = some (pos (rows' j))) (hb : ∀ t, t % 2 = 0 → t < 2 * h.next → t ≠ tk j → h'.blk t = h.blk t) (h2 : ∀ i, i < n → i ≠ j → rows' i = rows i) : RowsC n q i T tk rows' h' := by
  refine ⟨?_, fun i hi => ?_, H.inj, H.ne, H.ev, H.evT, fun i hi => by have := H.lt i hi; omega, by have := H.ltT; omega⟩
  · rw [hb T H.evT H.ltT (fun e => H.ne j hj e.symm)]; exact H.out
  · by_cases e : i = j
    · subst e; exact h1
    · rw [h2 i hi e, hb _ (H.ev i hi) (H.lt i hi) (fun e2 => e (H.inj i j hi hj e2))]
      exact H.row i hi
theorem RowsC.cut {n q i T : Nat} {tk : Nat → Nat} {rows : Nat → List Po} {h : HP} (H : RowsC n q i T tk rows h) : RowsC n q (i + 1) T tk rows (h.set T ((List.range n).map fun j => PV.ref (tk j) 0 2 (if j < i + 1 then q else n))) :=
  ⟨HP.set_same _ _ _, fun j hj => (HP.set_other _ _ (H.ne j hj)).trans (H.row j hj), H.inj, H.ne, H.ev, H.evT, H.lt, H.ltT⟩
theorem RowsC.cong {n q i T : Nat} {tk : Nat → Nat} {rows rows' : Nat → List Po} {h : HP} (H : RowsC n q i T tk rows h) (e : ∀ j, j < n → rows j = rows' j) : RowsC n q i T tk rows' h :=
  ⟨H.out, fun j hj => by rw [← e j hj]; exact H.row j hj, H.inj, H.ne, H.ev, H.evT, H.lt, H.ltT⟩
theorem Rows.toC {n q T : Nat} {tk : Nat → Nat} {rows : Nat → List Po} {h : HP} (H : Rows n n T tk rows h) : RowsC n q 0 T tk rows h :=
  ⟨by
    rw [H.out]
    refine congrArg some (List.map_congr_left fun j hj => ?_)
    rw [if_pos (List.mem_range.1 hj), if_neg (Nat.not_lt_zero _)], H.row, H.inj, H.ne, H.ev, H.evT, H.lt, H.ltT⟩
/-- of the matrix, the entries before (i, k) are turned -/
noncomputable def colA (w : List Int) (q i k : Nat) (r c : Nat) : LP := if c < q ∧ (r < i ∨ (r = i ∧ c < k)) then MA w r c else burM w r c
theorem colA_0 (w : List Int) (q : Nat) : colA w q 0 0 = burM w := by
  funext r c; unfold colA; rw [if_neg (by omega)]
theorem colA_end {w : List Int} {n q i r : Nat} : rowP (colA w q i q) n r = rowP (colA w q (i + 1) 0) n r := by
  unfold rowP colA
  refine List.map_congr_left (fun c hc => ?_)
  by_cases h : c < q ∧ (r < i ∨ (r = i ∧ c < q))
  · rw [if_pos h, if_pos (by omega)]
  · rw [if_neg h, if_neg (by omega)]
theorem colA_set (w : List Int) {n q i k : Nat} (hk : k < q) : (rowP (colA w q i k) n i).set k (poW (MA w i k)) = rowP (colA w q i (k + 1)) n i :=
  rowP_set (A' := colA w q i (k + 1)) rfl (by unfold colA; rw [if_pos ⟨hk, .inr ⟨rfl, Nat.lt_succ_self k⟩⟩]) (fun d _ hd => by
    unfold colA
    by_cases h : d < q ∧ d < k
    · rw [if_pos ⟨h.1, .inr ⟨rfl, show d < k + 1 by omega⟩⟩, if_pos ⟨h.1, .inr ⟨rfl, h.2⟩⟩]
    · rw [if_neg (by omega), if_neg (by omega)])
theorem colA_oth (w : List Int) {n q i k r : Nat} (h : r ≠ i) : rowP (colA w q i (k + 1)) n r = rowP (colA w q i k) n r := by
  unfold rowP colA
  refine List.map_congr_left (fun c _ => ?_)
  by_cases h2 : c < q ∧ r < i
  · rw [if_pos ⟨h2.1, .inl h2.2⟩, if_pos ⟨h2.1, .inl h2.2⟩]
  · rw [if_neg (by omega), if_neg (by omega)]
theorem colA_get (w : List Int) {q i k : Nat} : colA w q i k i k = burM w i k := by unfold colA; rw [if_neg (by omega)]
theorem colA_take (w : List Int) {n q r : Nat} (hr : r < q) (hq : q ≤ n) : (rowP (colA w q q 0) n r).take q = rowP (MA w) q r := by
  unfold rowP
  rw [← List.map_take, List.take_range, Nat.min_eq_left hq]
  refine List.map_congr_left (fun c hc => ?_)
  unfold colA
  rw [if_pos ⟨List.mem_range.1 hc, .inl hr⟩]
noncomputable def alL (n : Nat) (w : List Int) : LP := lapP (MA w) (List.range (n - 1)) (List.range (n - 1))
noncomputable def alF (n : Int) (w : List Int) : Int := if bF n w ≠ 0 then bF n w else if 20 < w.length then 2 else 0
noncomputable def alR (n : Int) (w : List Int) : Po := if alF n w = 0 then nrmW (poW (alL n.toNat w)) else (0, [])
/-- the first j of q rows are written no more -/
structure FRo (N q T : Nat) (tk : Nat → Nat) (rows : Nat → List Po) (j : Nat) (h : HP) : Prop where
  out : h.blk T = some ((List.range N).map fun i => if i < j then pps ((rows i).take q) else PV.ref (tk i) 0 2 (if i < q then q else N))
  row : ∀ i, j ≤ i → i < q → h.blk (tk i) = some (pos (rows i))
  c1 : h.blk 1 = some [pint 0, .lst true 0 0 []]
theorem CW.frzRows {P : Program} {TT : TypeId → TI} {M : Hn} {n : Nat} {c : Code} {t : Nat → PV} {Q : Exit → AS → Prop} {N q T : Nat} {tk : Nat → Nat} {rows : Nat → List Po} (hq : q ≤ N) (hT : T % 2 = 0) (hev : ∀ i, i < N → tk i % 2 = 0) (hne : ∀ i, i < N → tk i ≠ T) (hinj : ∀ i j, i < N → j < N → tk i = tk j → i = j) (hlen : ∀ i, (rows i).length = N)
    (hk : ∀ h, FRo N q T tk rows q h → CW P TT M n c ⟨t, h⟩ Q) : ∀ (d j : Nat) (h : HP), j + d = q → FRo N q T tk rows j h → CW P TT M n c ⟨t, h⟩ Q
  | 0, j, h, hj, H => by
    obtain rfl : j = q := by omega
    exact hk h H
  | d + 1, j, h, hj, H => by
    have hjq : j < q := by omega
    have hjN : j < N := by omega
    have e1 := hne j hjN
    have e2 := hev j hjN
    refine CW.freezeC T j (tk := tk j) (off := 0) (sz := 2) (m := q) H.out (by simp [hjN, hjq]) (H.row j (Nat.le_refl _) hjq) (by rw [pos_length, hlen]; omega) (fun e => e1 e.symm) (r := pps ((rows j).take q)) (by
      unfold pps
      rw [List.drop_zero, pos_take, List.length_take, hlen, Nat.min_eq_left hq]) ?_
    refine CW.frzRows hq hT hev hne hinj hlen hk d (j + 1) _ (by omega) ⟨?_, fun i hi hi2 => ?_, ?_⟩
    · refine (HP.set_same _ _ _).trans (congrArg some ?_)
      apply List.ext_getElem (by simp)
      intro k g1 g2
      rw [List.getElem_set]
      simp only [List.getElem_map, List.getElem_range]
      by_cases e : j = k
      · subst e; rw [if_pos rfl, if_pos (show j < j + 1 by omega)]
      · rw [if_neg e]
        by_cases h2 : k < j
        · rw [if_pos h2, if_pos (show k < j + 1 by omega)]
        · rw [if_neg h2, if_neg (show ¬ k < j + 1 by omega)]
    · exact (HP.set_other _ _ (hne i (by omega))).trans ((HP.kill_other _ (fun e => by have := hinj i j (by omega) hjN e; omega)).trans (H.row i (by omega) hi2))
    · exact (HP.set_other _ _ (by omega)).trans ((HP.kill_other _ (by omega)).trans H.c1)
theorem AW.slrToG {P : Program} {T : TypeId → TI} {M : Hn} {t : Nat → PV} {h : HP} {cl : Oper → Cls} {ops : Array Oper} {l : List Oper} {K : AS → Prop} {d : Nat} {ty : TypeId} {pos : String} {aft : Array Edge} {tt : TypeId} {x hi : Operand} {el sz bs m tk off q : Nat} {zc : List Value} {k1 : IntKind} {z : Int} (hx : evA t x = .ref tk off sz m) (ht : T tt = .sl el sz bs zc) (hl : evA t hi = .sc (.int k1 z)) (hz : z = (q : Int)) (hb : q ≤ m)
    (hk : AW P T M cl ops l ⟨upd t d (.ref tk off sz q), h⟩ K) : AW P T M cl ops (⟨some d, .slice tt x none (some hi) none, ty, pos, aft, none⟩ :: l) ⟨t, h⟩ K := by
  subst hz
  have := AW.slr (P := P) (M := M) (cl := cl) (ops := ops) (l := l) (h := h) (K := K) (d := d) (ty := ty) (pos := pos) (aft := aft) (lo := none) (hi := some hi) hx ht rfl ⟨_, hl⟩ ⟨Int.le_refl _, by omega, by omega⟩
  refine this ?_
  simpa using hk
set_option maxHeartbeats 32000000 in
set_option maxRecDepth 100000 in
theorem alexP_s (n : Int) (w : List Int) : SC Try.prog 22 [pint n, pli w] (.tup [ppo (alR n w), pint (alF n w)]) := by
  have kc := bcheck_s n w
  refine SC.go {} tok mixed Try.func22 rfl rfl Try.ntmps22 rfl rfl (code3_ok (by kernel_rfl)) ?_
  first | simp only [updS] | simp only [updL, Nat.reduceAdd]
  repeat (first | refine S0 ?_ | refine S1 ?_ | refine S2 ?_ | refine S3 ?_ | refine S4 ?_ | refine S5 ?_ | refine S6 ?_ | refine S7 ?_ | refine S8 ?_ | refine S9 ?_ | refine S10 ?_ | refine S11 ?_ | refine S13 ?_ | refine S15 ?_ | refine S16 ?_ | refine S19 ?_ | refine S20 ?_ | refine S21 ?_ | refine S22 ?_ | refine S23 ?_ | refine S24 ?_ | refine S27 ?_ | refine S28 ?_ | refine S29 ?_ | refine S30 ?_ | refine S33 ?_ | refine S48 ?_ | refine S66 ?_ | refine S68 ?_ | refine S69 ?_)
  refine Scall (args := [pint n, pli w]) kc ?_
  have hb1 : 0 ≤ bF n w ∧ bF n w ≤ 3 := by unfold bF; repeat' split
                                           all_goals omega
  by_cases h0 : bF n w ≠ 0
  · have e1 : alF n w = bF n w := by unfold alF; rw [if_pos h0]
    have e2 : alR n w = (0, []) := by unfold alR; rw [if_neg (by rw [e1]; exact h0)]
    rw [e1, e2]
    generalize bF n w = f at *
    repeat (first | refine S0 ?_ | refine S1 ?_ | refine S2 ?_ | refine S3 ?_ | refine S4 ?_ | refine S5 ?_ | refine S6 ?_ | refine S7 ?_ | refine S8 ?_ | refine S9 ?_ | refine S10 ?_ | refine S11 ?_ | refine S13 ?_ | refine S15 ?_ | refine S16 ?_ | refine S19 ?_ | refine S20 ?_ | refine S21 ?_ | refine S22 ?_ | refine S23 ?_ | refine S24 ?_ | refine S27 ?_ | refine S28 ?_ | refine S29 ?_ | refine S30 ?_ | refine S33 ?_ | refine S48 ?_ | refine S66 ?_ | refine S68 ?_ | refine S69 ?_)
    exact ⟨.inr rfl, FR.cellTmp rfl HBx rfl rfl rfl (Fz.pair (.nrm rfl) (.cl rfl))⟩
  · have h0' : bF n w = 0 := by omega
    have hwf : (1 ≤ n ∧ n ≤ 6) ∧ w.length ≤ 30 ∧ ∀ x ∈ w, letP n x := by
      unfold bF at h0'
      split at h0'
      · omega
      · split at h0'
        · omega
        · split at h0'
          · rename_i q1 q2 q3
            exact ⟨by omega, by omega, q3⟩
          · omega
    rw [h0']
    repeat (first | refine S0 ?_ | refine S1 ?_ | refine S2 ?_ | refine S3 ?_ | refine S4 ?_ | refine S5 ?_ | refine S6 ?_ | refine S7 ?_ | refine S8 ?_ | refine S9 ?_ | refine S10 ?_ | refine S11 ?_ | refine S13 ?_ | refine S15 ?_ | refine S16 ?_ | refine S19 ?_ | refine S20 ?_ | refine S21 ?_ | refine S22 ?_ | refine S23 ?_ | refine S24 ?_ | refine S27 ?_ | refine S28 ?_ | refine S29 ?_ | refine S30 ?_ | refine S33 ?_ | refine S48 ?_ | refine S66 ?_ | refine S68 ?_ | refine S69 ?_)
    by_cases h1 : 20 < w.length
    · have e1 : alF n w = 2 := by unfold alF; rw [if_neg (by rw [h0']; simp), if_pos h1]
      have e2 : alR n w = (0, []) := by unfold alR; rw [if_neg (by rw [e1]; omega)]
      rw [e1, e2]
      repeat (first | refine S0 ?_ | refine S1 ?_ | refine S2 ?_ | refine S3 ?_ | refine S4 ?_ | refine S5 ?_ | refine S6 ?_ | refine S7 ?_ | refine S8 ?_ | refine S9 ?_ | refine S10 ?_ | refine S11 ?_ | refine S13 ?_ | refine S15 ?_ | refine S16 ?_ | refine S19 ?_ | refine S20 ?_ | refine S21 ?_ | refine S22 ?_ | refine S23 ?_ | refine S24 ?_ | refine S27 ?_ | refine S28 ?_ | refine S29 ?_ | refine S30 ?_ | refine S33 ?_ | refine S48 ?_ | refine S66 ?_ | refine S68 ?_ | refine S69 ?_)
      exact ⟨.inr rfl, FR.cellTmp rfl HBx rfl rfl rfl (Fz.pair (.nrm rfl) (.cl rfl))⟩
    have e1 : alF n w = 0 := by unfold alF; rw [if_neg (by rw [h0']; simp), if_neg h1]
    obtain ⟨N, rfl⟩ : ∃ N : Nat, n = (N : Int) := ⟨n.toNat, by omega⟩
    have e2 : alR N w = nrmW (poW (alL N w)) := by unfold alR; rw [if_pos e1, Int.toNat_natCast]
    rw [e1, e2]
    obtain ⟨q, hq⟩ : ∃ q, q = N - 1 := ⟨_, rfl⟩
    have hsA : ∀ r c, Sup 30 (burM w r c) := fun r c => (burM_sup w r c).mono (by omega)
    have hsM : ∀ r c, Sup ((30 : Nat) : Int) (MA w r c) := fun r c => (MA_sup w r c).mono (by omega)
    repeat (first | refine S0 ?_ | refine S1 ?_ | refine S2 ?_ | refine S3 ?_ | refine S4 ?_ | refine S5 ?_ | refine S6 ?_ | refine S7 ?_ | refine S8 ?_ | refine S9 ?_ | refine S10 ?_ | refine S11 ?_ | refine S13 ?_ | refine S15 ?_ | refine S16 ?_ | refine S19 ?_ | refine S20 ?_ | refine S21 ?_ | refine S22 ?_ | refine S23 ?_ | refine S24 ?_ | refine S27 ?_ | refine S28 ?_ | refine S29 ?_ | refine S30 ?_ | refine S33 ?_ | refine S48 ?_ | refine S66 ?_ | refine S68 ?_ | refine S69 ?_)
    refine Scalle (args := [pint N, pli w]) (matrix_e (by omega) hwf.2.1 hwf.2.2 _) ?_
    rintro r h' ⟨T, tk, rfl, R, F⟩
    have hR := F.get (t := 1) (cs := [pint 0, .lst true 0 0 []]) (by first | omega | (simp only [HP.tokF, HP.tokT, HP.next_add, HP.next_set, HP.next_kill, HP.next_H0, HP.next_addS, HP.next_setS, HP.next_killS, HP.next_put, HP.next_bump, HP.next_putS]; omega)) (by simp) HBx
    have hFn := F.next
    have hT1 : T % 2 = 0 := R.evT
    have hqN : q < N := by omega
    repeat (first | refine S0 ?_ | refine S1 ?_ | refine S2 ?_ | refine S3 ?_ | refine S4 ?_ | refine S5 ?_ | refine S6 ?_ | refine S7 ?_ | refine S8 ?_ | refine S9 ?_ | refine S10 ?_ | refine S11 ?_ | refine S13 ?_ | refine S15 ?_ | refine S16 ?_ | refine S19 ?_ | refine S20 ?_ | refine S21 ?_ | refine S22 ?_ | refine S23 ?_ | refine S24 ?_ | refine S27 ?_ | refine S28 ?_ | refine S29 ?_ | refine S30 ?_ | refine S33 ?_ | refine S48 ?_ | refine S66 ?_ | refine S68 ?_ | refine S69 ?_)
    refine AW.slrToG (q := q) EVx rfl EVx (by omega) (by omega) ?_
    repeat (first | refine S0 ?_ | refine S1 ?_ | refine S2 ?_ | refine S3 ?_ | refine S4 ?_ | refine S5 ?_ | refine S6 ?_ | refine S7 ?_ | refine S8 ?_ | refine S9 ?_ | refine S10 ?_ | refine S11 ?_ | refine S13 ?_ | refine S15 ?_ | refine S16 ?_ | refine S19 ?_ | refine S20 ?_ | refine S21 ?_ | refine S22 ?_ | refine S23 ?_ | refine S24 ?_ | refine S27 ?_ | refine S28 ?_ | refine S29 ?_ | refine S30 ?_ | refine S33 ?_ | refine S48 ?_ | refine S66 ?_ | refine S68 ?_ | refine S69 ?_)
    refine CW.loopS (fun i : Nat => i ≤ q) (fun i => [(0, pint N), (4, .ptr 1 0), (7, .ref T 0 1 q), (29, .ref T 0 1 q), (30, pint q), (31, pint i)])
      (fun i hp => RowsC N q i T tk (rowP (colA w q i 0) N) hp ∧ hp.blk 1 = some [pint 0, .lst true 0 0 []] ∧ 1 ≤ hp.next) (fun i => q - i) 0 ⟨Nat.zero_le _, SLx, ?_⟩ ?_
    · refine ⟨?_, hR, ?_⟩
      · rw [colA_0]; exact R.toC
      · have : (1 : Nat) ≤ h'.next := by have := hFn; simpa only [HP.next_add, HP.next_H0] using this
        exact this
    clear R F hR hFn
    rintro i t h1 hi ⟨R, b1, n1⟩
    first | simp only [updS] | simp only [updL, Nat.reduceAdd]
    by_cases hi2 : i < q
    · have hiN : i < N := by omega
      have hei := R.ev i hiN
      have hnei := R.ne i hiN
      repeat (first | refine S0 ?_ | refine S1 ?_ | refine S2 ?_ | refine S3 ?_ | refine S4 ?_ | refine S5 ?_ | refine S6 ?_ | refine S7 ?_ | refine S8 ?_ | refine S9 ?_ | refine S10 ?_ | refine S11 ?_ | refine S13 ?_ | refine S15 ?_ | refine S16 ?_ | refine S19 ?_ | refine S20 ?_ | refine S21 ?_ | refine S22 ?_ | refine S23 ?_ | refine S24 ?_ | refine S27 ?_ | refine S28 ?_ | refine S29 ?_ | refine S30 ?_ | refine S33 ?_ | refine S48 ?_ | refine S66 ?_ | refine S68 ?_ | refine S69 ?_)
      rw [show 0 + (i : Int).toNat * 1 = i by simp]
      refine AW.ldm EVx (by first | exact Or.inl rfl | exact Or.inr ⟨rfl, HP.tok_even _⟩ | exact Or.inr (Or.inl ⟨rfl, HP.tok_even _⟩) | exact Or.inr (Or.inr ⟨rfl, HP.tok_odd _⟩) | exact Or.inr (Or.inl rfl) | exact Or.inr (Or.inr (Or.inl rfl)) | exact Or.inr (Or.inr (Or.inr (Or.inl ⟨rfl, HP.tok_odd _⟩))) | exact Or.inr (Or.inr (Or.inr (Or.inr ⟨rfl, HP.tok_even _⟩))) | exact Or.inr (Or.inr (Or.inr (Or.inr ⟨rfl, by assumption⟩))) | exact Or.inr ⟨rfl, by assumption⟩ | exact Or.inr (Or.inl ⟨rfl, by assumption⟩) | exact Or.inr (Or.inr ⟨rfl, by assumption⟩) | exact Or.inr (Or.inr (Or.inr (Or.inl ⟨rfl, by assumption⟩))) | exact Or.inr (Or.inr (Or.inl ⟨rfl, HP.tok_odd _⟩)) | exact Or.inr (Or.inr (Or.inl ⟨rfl, by assumption⟩)) | exact Or.inr (Or.inr (Or.inr rfl)) | exact Or.inr (Or.inr rfl) | exact Or.inr rfl) rfl R.out (outQ_get tk hiN) ?_
      rw [if_neg (Nat.lt_irrefl i)]
      repeat (first | refine S0 ?_ | refine S1 ?_ | refine S2 ?_ | refine S3 ?_ | refine S4 ?_ | refine S5 ?_ | refine S6 ?_ | refine S7 ?_ | refine S8 ?_ | refine S9 ?_ | refine S10 ?_ | refine S11 ?_ | refine S13 ?_ | refine S15 ?_ | refine S16 ?_ | refine S19 ?_ | refine S20 ?_ | refine S21 ?_ | refine S22 ?_ | refine S23 ?_ | refine S24 ?_ | refine S27 ?_ | refine S28 ?_ | refine S29 ?_ | refine S30 ?_ | refine S33 ?_ | refine S48 ?_ | refine S66 ?_ | refine S68 ?_ | refine S69 ?_)
      refine AW.slrToG (q := q) EVx rfl EVx (by omega) (by omega) ?_
      repeat (first | refine S0 ?_ | refine S1 ?_ | refine S2 ?_ | refine S3 ?_ | refine S4 ?_ | refine S5 ?_ | refine S6 ?_ | refine S7 ?_ | refine S8 ?_ | refine S9 ?_ | refine S10 ?_ | refine S11 ?_ | refine S13 ?_ | refine S15 ?_ | refine S16 ?_ | refine S19 ?_ | refine S20 ?_ | refine S21 ?_ | refine S22 ?_ | refine S23 ?_ | refine S24 ?_ | refine S27 ?_ | refine S28 ?_ | refine S29 ?_ | refine S30 ?_ | refine S33 ?_ | refine S48 ?_ | refine S66 ?_ | refine S68 ?_ | refine S69 ?_)
      rw [show 0 + (i : Int).toNat * 1 = i by simp]
      refine AW.stR (r := (List.range N).map fun j => PV.ref (tk j) 0 2 (if j < i + 1 then q else N)) EVx (by first | exact Or.inl rfl | exact Or.inr ⟨rfl, HP.tok_even _⟩ | exact Or.inr (Or.inl ⟨rfl, HP.tok_even _⟩) | exact Or.inr (Or.inr ⟨rfl, HP.tok_odd _⟩) | exact Or.inr (Or.inl rfl) | exact Or.inr (Or.inr (Or.inl rfl)) | exact Or.inr (Or.inr (Or.inr (Or.inl ⟨rfl, HP.tok_odd _⟩))) | exact Or.inr (Or.inr (Or.inr (Or.inr ⟨rfl, HP.tok_even _⟩))) | exact Or.inr (Or.inr (Or.inr (Or.inr ⟨rfl, by assumption⟩))) | exact Or.inr ⟨rfl, by assumption⟩ | exact Or.inr (Or.inl ⟨rfl, by assumption⟩) | exact Or.inr (Or.inr ⟨rfl, by assumption⟩) | exact Or.inr (Or.inr (Or.inr (Or.inl ⟨rfl, by assumption⟩))) | exact Or.inr (Or.inr (Or.inl ⟨rfl, HP.tok_odd _⟩)) | exact Or.inr (Or.inr (Or.inl ⟨rfl, by assumption⟩)) | exact Or.inr (Or.inr (Or.inr rfl)) | exact Or.inr (Or.inr rfl) | exact Or.inr rfl) EVx rfl R.out (by simp; omega) rfl (outQ_set tk hiN) ?_
      have R1 := R.cut
      obtain ⟨X, hX⟩ : ∃ X, X = h1.set T ((List.range N).map fun j => PV.ref (tk j) 0 2 (if j < i + 1 then q else N)) := ⟨_, rfl⟩
      have hXn : X.next = h1.next := by rw [hX]; rfl
      have hX1 : X.blk 1 = some [pint 0, .lst true 0 0 []] := by rw [hX]; exact (HP.set_other _ _ (by omega)).trans b1
      rw [← hX] at R1 ⊢
      clear hX
      have R1o := R1.out
      repeat (first | refine S0 ?_ | refine S1 ?_ | refine S2 ?_ | refine S3 ?_ | refine S4 ?_ | refine S5 ?_ | refine S6 ?_ | refine S7 ?_ | refine S8 ?_ | refine S9 ?_ | refine S10 ?_ | refine S11 ?_ | refine S13 ?_ | refine S15 ?_ | refine S16 ?_ | refine S19 ?_ | refine S20 ?_ | refine S21 ?_ | refine S22 ?_ | refine S23 ?_ | refine S24 ?_ | refine S27 ?_ | refine S28 ?_ | refine S29 ?_ | refine S30 ?_ | refine S33 ?_ | refine S48 ?_ | refine S66 ?_ | refine S68 ?_ | refine S69 ?_)
      rw [show 0 + (i : Int).toNat * 1 = i by simp]
      refine AW.ldm EVx (by first | exact Or.inl rfl | exact Or.inr ⟨rfl, HP.tok_even _⟩ | exact Or.inr (Or.inl ⟨rfl, HP.tok_even _⟩) | exact Or.inr (Or.inr ⟨rfl, HP.tok_odd _⟩) | exact Or.inr (Or.inl rfl) | exact Or.inr (Or.inr (Or.inl rfl)) | exact Or.inr (Or.inr (Or.inr (Or.inl ⟨rfl, HP.tok_odd _⟩))) | exact Or.inr (Or.inr (Or.inr (Or.inr ⟨rfl, HP.tok_even _⟩))) | exact Or.inr (Or.inr (Or.inr (Or.inr ⟨rfl, by assumption⟩))) | exact Or.inr ⟨rfl, by assumption⟩ | exact Or.inr (Or.inl ⟨rfl, by assumption⟩) | exact Or.inr (Or.inr ⟨rfl, by assumption⟩) | exact Or.inr (Or.inr (Or.inr (Or.inl ⟨rfl, by assumption⟩))) | exact Or.inr (Or.inr (Or.inl ⟨rfl, HP.tok_odd _⟩)) | exact Or.inr (Or.inr (Or.inl ⟨rfl, by assumption⟩)) | exact Or.inr (Or.inr (Or.inr rfl)) | exact Or.inr (Or.inr rfl) | exact Or.inr rfl) rfl R1o (outQ_get tk hiN) ?_
      rw [if_pos (Nat.lt_succ_self i)]
      repeat (first | refine S0 ?_ | refine S1 ?_ | refine S2 ?_ | refine S3 ?_ | refine S4 ?_ | refine S5 ?_ | refine S6 ?_ | refine S7 ?_ | refine S8 ?_ | refine S9 ?_ | refine S10 ?_ | refine S11 ?_ | refine S13 ?_ | refine S15 ?_ | refine S16 ?_ | refine S19 ?_ | refine S20 ?_ | refine S21 ?_ | refine S22 ?_ | refine S23 ?_ | refine S24 ?_ | refine S27 ?_ | refine S28 ?_ | refine S29 ?_ | refine S30 ?_ | refine S33 ?_ | refine S48 ?_ | refine S66 ?_ | refine S68 ?_ | refine S69 ?_)
      refine CW.loopS (fun k : Nat => k ≤ q) (fun k => [(0, pint N), (4, .ptr 1 0), (7, .ref T 0 1 q), (29, .ref T 0 1 q), (30, pint q), (31, pint i), (8, pint i), (47, .ref (tk i) 0 2 q), (48, pint q), (49, pint k)])
        (fun k hp => RowsC N q (i + 1) T tk (rowP (colA w q i k) N) hp ∧ hp.blk 1 = some [pint 0, .lst true 0 0 []] ∧ 1 ≤ hp.next) (fun k => q - k) 0 ⟨Nat.zero_le _, SLx, R1, hX1, by rw [hXn]; exact n1⟩ ?_
      clear R1 R1o hX1 hXn X R b1 n1 t
      rintro k t h2 hk ⟨R, b1, n1⟩
      first | simp only [updS] | simp only [updL, Nat.reduceAdd]
      by_cases hk2 : k < q
      · have hkN : k < N := by omega
        have hlt := R.lt i hiN
        have hltT := R.ltT
        repeat (first | refine S0 ?_ | refine S1 ?_ | refine S2 ?_ | refine S3 ?_ | refine S4 ?_ | refine S5 ?_ | refine S6 ?_ | refine S7 ?_ | refine S8 ?_ | refine S9 ?_ | refine S10 ?_ | refine S11 ?_ | refine S13 ?_ | refine S15 ?_ | refine S16 ?_ | refine S19 ?_ | refine S20 ?_ | refine S21 ?_ | refine S22 ?_ | refine S23 ?_ | refine S24 ?_ | refine S27 ?_ | refine S28 ?_ | refine S29 ?_ | refine S30 ?_ | refine S33 ?_ | refine S48 ?_ | refine S66 ?_ | refine S68 ?_ | refine S69 ?_)
        rw [show 0 + (k : Int).toNat * 2 = k * 2 by simp]
        refine AW.ldma (r := [pint (poW (burM w i k)).1, pli (poW (burM w i k)).2]) EVx (by first | exact Or.inl rfl | exact Or.inr ⟨rfl, HP.tok_even _⟩ | exact Or.inr (Or.inl ⟨rfl, HP.tok_even _⟩) | exact Or.inr (Or.inr ⟨rfl, HP.tok_odd _⟩) | exact Or.inr (Or.inl rfl) | exact Or.inr (Or.inr (Or.inl rfl)) | exact Or.inr (Or.inr (Or.inr (Or.inl ⟨rfl, HP.tok_odd _⟩))) | exact Or.inr (Or.inr (Or.inr (Or.inr ⟨rfl, HP.tok_even _⟩))) | exact Or.inr (Or.inr (Or.inr (Or.inr ⟨rfl, by assumption⟩))) | exact Or.inr ⟨rfl, by assumption⟩ | exact Or.inr (Or.inl ⟨rfl, by assumption⟩) | exact Or.inr (Or.inr ⟨rfl, by assumption⟩) | exact Or.inr (Or.inr (Or.inr (Or.inl ⟨rfl, by assumption⟩))) | exact Or.inr (Or.inr (Or.inl ⟨rfl, HP.tok_odd _⟩)) | exact Or.inr (Or.inr (Or.inl ⟨rfl, by assumption⟩)) | exact Or.inr (Or.inr (Or.inr rfl)) | exact Or.inr (Or.inr rfl) | exact Or.inr rfl) rfl (R.row i hiN) (by rw [pos_length, rowP_len]; omega) ((pos_at (by rw [rowP_len]; omega)).trans (by rw [rowP_get _ hkN, colA_get])) ?_
        repeat (first | refine S0 ?_ | refine S1 ?_ | refine S2 ?_ | refine S3 ?_ | refine S4 ?_ | refine S5 ?_ | refine S6 ?_ | refine S7 ?_ | refine S8 ?_ | refine S9 ?_ | refine S10 ?_ | refine S11 ?_ | refine S13 ?_ | refine S15 ?_ | refine S16 ?_ | refine S19 ?_ | refine S20 ?_ | refine S21 ?_ | refine S22 ?_ | refine S23 ?_ | refine S24 ?_ | refine S27 ?_ | refine S28 ?_ | refine S29 ?_ | refine S30 ?_ | refine S33 ?_ | refine S48 ?_ | refine S66 ?_ | refine S68 ?_ | refine S69 ?_)
        obtain ⟨ta, hta⟩ : ∃ ta, ta = h2.tok true := ⟨_, rfl⟩
        rw [← hta]
        obtain ⟨tb, htb⟩ : ∃ tb, tb = ((h2.add true [.sc (.int .i64 0), .lst true 0 0 []]).set ta [.sc (.int .i64 (poW (burM w i k)).1), pli (poW (burM w i k)).2]).tok true := ⟨_, rfl⟩
        rw [← htb]
        have hta' : ta = 2 * h2.next + 1 := by rw [hta, HP.tokT]
        have htb' : tb = 2 * (h2.next + 1) + 1 := by rw [htb, HP.tokT]; rfl
        refine CW.nrmB tb (HP.set_same _ _ _) (r := [pint 0, pli []]) rfl ?_
        refine CW.cut [(0, pint N), (4, .ptr 1 0), (7, .ref T 0 1 q), (29, .ref T 0 1 q), (30, pint q), (31, pint i), (8, pint i), (47, .ref (tk i) 0 2 q), (48, pint q), (49, pint k), (9, pint k), (10, .ptr ta 0), (11, .ptr tb 0), (57, .sc (.bool (decide ((i : Int) = (k : Int)))))] (fun hp => RowsC N q (i + 1) T tk (rowP (colA w q i k) N) hp ∧ hp.blk 1 = some [pint 0, .lst true 0 0 []] ∧ hp.blk ta = some [pint (poW (burM w i k)).1, pli (poW (burM w i k)).2] ∧ hp.blk tb = some [pint 0, pli []] ∧ h2.next + 2 ≤ hp.next) ?_ ?_
        · refine ⟨SLx, R.keep (show h2.next ≤ h2.next + 1 + 1 by omega) (fun t ht hlt => (HP.set_other _ _ (by omega)).trans ((HP.set_other _ _ (by omega)).trans ((HP.add_other _ _ _ (by rw [← htb]; omega)).trans ((HP.set_other _ _ (by omega)).trans (HP.add_other _ _ _ (by rw [← hta]; omega)))))), ?_, ?_, HP.set_same _ _ _, Nat.le_refl _⟩
          · exact (HP.set_other _ _ (by omega)).trans ((HP.set_other _ _ (by omega)).trans ((HP.add_other _ _ _ (by rw [← htb]; omega)).trans ((HP.set_other _ _ (by omega)).trans ((HP.add_other _ _ _ (by rw [← hta]; omega)).trans b1))))
          · exact (HP.set_other _ _ (by omega)).trans ((HP.set_other _ _ (by omega)).trans ((HP.add_other _ _ _ (by rw [← htb]; omega)).trans (HP.set_same _ _ _)))
        clear R b1 t
        rintro t h3 ⟨R, b1, ba, bb, n3⟩
        first | simp only [updS] | simp only [updL, Nat.reduceAdd]
        refine CW.midS (fun _ : Unit => True) (fun _ => [(0, pint N), (4, .ptr 1 0), (7, .ref T 0 1 q), (29, .ref T 0 1 q), (30, pint q), (31, pint i), (8, pint i), (47, .ref (tk i) 0 2 q), (48, pint q), (49, pint k), (9, pint k), (10, .ptr ta 0), (11, .ptr tb 0)])
          (fun _ hp => RowsC N q (i + 1) T tk (rowP (colA w q i k) N) hp ∧ hp.blk 1 = some [pint 0, .lst true 0 0 []] ∧ hp.blk ta = some [pint (poW (burM w i k)).1, pli (poW (burM w i k)).2] ∧ hp.blk tb = some [pint (poW (unitM i k)).1, pli (poW (unitM i k)).2] ∧ h2.next + 2 ≤ hp.next) ?_ ?_
        · by_cases hik : i = k
          · have hu : unitM i k = LP.mono 1 0 := by unfold unitM; rw [if_pos hik, LP.one_eq]
            rw [hu]
            repeat (first | refine S0 ?_ | refine S1 ?_ | refine S2 ?_ | refine S3 ?_ | refine S4 ?_ | refine S5 ?_ | refine S6 ?_ | refine S7 ?_ | refine S8 ?_ | refine S9 ?_ | refine S10 ?_ | refine S11 ?_ | refine S13 ?_ | refine S15 ?_ | refine S16 ?_ | refine S19 ?_ | refine S20 ?_ | refine S21 ?_ | refine S22 ?_ | refine S23 ?_ | refine S24 ?_ | refine S27 ?_ | refine S28 ?_ | refine S29 ?_ | refine S30 ?_ | refine S33 ?_ | refine S48 ?_ | refine S66 ?_ | refine S68 ?_ | refine S69 ?_)
            refine Scall (args := [pint 1, pint 0]) (termW_s 1 0 (by unfold in64; omega) (by omega)) ?_
            repeat (first | refine S0 ?_ | refine S1 ?_ | refine S2 ?_ | refine S3 ?_ | refine S4 ?_ | refine S5 ?_ | refine S6 ?_ | refine S7 ?_ | refine S8 ?_ | refine S9 ?_ | refine S10 ?_ | refine S11 ?_ | refine S13 ?_ | refine S15 ?_ | refine S16 ?_ | refine S19 ?_ | refine S20 ?_ | refine S21 ?_ | refine S22 ?_ | refine S23 ?_ | refine S24 ?_ | refine S27 ?_ | refine S28 ?_ | refine S29 ?_ | refine S30 ?_ | refine S33 ?_ | refine S48 ?_ | refine S66 ?_ | refine S68 ?_ | refine S69 ?_)
            exact ⟨(), trivial, SLx, R.keep (Nat.le_refl _) (fun t ht hlt => HP.set_other _ _ (by omega)), (HP.set_other _ _ (by omega)).trans b1, (HP.set_other _ _ (by omega)).trans ba, HP.set_same _ _ _, n3⟩
          · have hu : unitM i k = 0 := by unfold unitM; rw [if_neg hik]
            rw [hu, poW_zero]
            repeat (first | refine S0 ?_ | refine S1 ?_ | refine S2 ?_ | refine S3 ?_ | refine S4 ?_ | refine S5 ?_ | refine S6 ?_ | refine S7 ?_ | refine S8 ?_ | refine S9 ?_ | refine S10 ?_ | refine S11 ?_ | refine S13 ?_ | refine S15 ?_ | refine S16 ?_ | refine S19 ?_ | refine S20 ?_ | refine S21 ?_ | refine S22 ?_ | refine S23 ?_ | refine S24 ?_ | refine S27 ?_ | refine S28 ?_ | refine S29 ?_ | refine S30 ?_ | refine S33 ?_ | refine S48 ?_ | refine S66 ?_ | refine S68 ?_ | refine S69 ?_)
            exact ⟨(), trivial, SLx, R, b1, ba, bb, n3⟩
        clear R b1 ba bb n3 t h3
        rintro ⟨⟩ t h3 _ ⟨R, b1, ba, bb, n3⟩
        have Ro := R.out
        first | simp only [updS] | simp only [updL, Nat.reduceAdd]
        repeat (first | refine S0 ?_ | refine S1 ?_ | refine S2 ?_ | refine S3 ?_ | refine S4 ?_ | refine S5 ?_ | refine S6 ?_ | refine S7 ?_ | refine S8 ?_ | refine S9 ?_ | refine S10 ?_ | refine S11 ?_ | refine S13 ?_ | refine S15 ?_ | refine S16 ?_ | refine S19 ?_ | refine S20 ?_ | refine S21 ?_ | refine S22 ?_ | refine S23 ?_ | refine S24 ?_ | refine S27 ?_ | refine S28 ?_ | refine S29 ?_ | refine S30 ?_ | refine S33 ?_ | refine S48 ?_ | refine S66 ?_ | refine S68 ?_ | refine S69 ?_)
        rw [show 0 + (i : Int).toNat * 1 = i by simp]
        refine AW.ldm EVx (by first | exact Or.inl rfl | exact Or.inr ⟨rfl, HP.tok_even _⟩ | exact Or.inr (Or.inl ⟨rfl, HP.tok_even _⟩) | exact Or.inr (Or.inr ⟨rfl, HP.tok_odd _⟩) | exact Or.inr (Or.inl rfl) | exact Or.inr (Or.inr (Or.inl rfl)) | exact Or.inr (Or.inr (Or.inr (Or.inl ⟨rfl, HP.tok_odd _⟩))) | exact Or.inr (Or.inr (Or.inr (Or.inr ⟨rfl, HP.tok_even _⟩))) | exact Or.inr (Or.inr (Or.inr (Or.inr ⟨rfl, by assumption⟩))) | exact Or.inr ⟨rfl, by assumption⟩ | exact Or.inr (Or.inl ⟨rfl, by assumption⟩) | exact Or.inr (Or.inr ⟨rfl, by assumption⟩) | exact Or.inr (Or.inr (Or.inr (Or.inl ⟨rfl, by assumption⟩))) | exact Or.inr (Or.inr (Or.inl ⟨rfl, HP.tok_odd _⟩)) | exact Or.inr (Or.inr (Or.inl ⟨rfl, by assumption⟩)) | exact Or.inr (Or.inr (Or.inr rfl)) | exact Or.inr (Or.inr rfl) | exact Or.inr rfl) rfl Ro (outQ_get tk hiN) ?_
        rw [if_pos (Nat.lt_succ_self i)]
        repeat (first | refine S0 ?_ | refine S1 ?_ | refine S2 ?_ | refine S3 ?_ | refine S4 ?_ | refine S5 ?_ | refine S6 ?_ | refine S7 ?_ | refine S8 ?_ | refine S9 ?_ | refine S10 ?_ | refine S11 ?_ | refine S13 ?_ | refine S15 ?_ | refine S16 ?_ | refine S19 ?_ | refine S20 ?_ | refine S21 ?_ | refine S22 ?_ | refine S23 ?_ | refine S24 ?_ | refine S27 ?_ | refine S28 ?_ | refine S29 ?_ | refine S30 ?_ | refine S33 ?_ | refine S48 ?_ | refine S66 ?_ | refine S68 ?_ | refine S69 ?_)
        refine Scall (args := [ppo (poW (unitM i k)), ppo (poW (burM w i k)), pint (-1)]) (plusW_s _ _ (-1) ((unitM_sup i k).mono (by simp)) ((hsA i k).mono (by omega))) ?_
        repeat (first | refine S0 ?_ | refine S1 ?_ | refine S2 ?_ | refine S3 ?_ | refine S4 ?_ | refine S5 ?_ | refine S6 ?_ | refine S7 ?_ | refine S8 ?_ | refine S9 ?_ | refine S10 ?_ | refine S11 ?_ | refine S13 ?_ | refine S15 ?_ | refine S16 ?_ | refine S19 ?_ | refine S20 ?_ | refine S21 ?_ | refine S22 ?_ | refine S23 ?_ | refine S24 ?_ | refine S27 ?_ | refine S28 ?_ | refine S29 ?_ | refine S30 ?_ | refine S33 ?_ | refine S48 ?_ | refine S66 ?_ | refine S68 ?_ | refine S69 ?_)
        rw [show 0 + (k : Int).toNat * 2 = k * 2 by simp]
        refine AW.staR (r := pos (rowP (colA w q i (k + 1)) N i)) EVx (by first | exact Or.inl rfl | exact Or.inr ⟨rfl, HP.tok_even _⟩ | exact Or.inr (Or.inl ⟨rfl, HP.tok_even _⟩) | exact Or.inr (Or.inr ⟨rfl, HP.tok_odd _⟩) | exact Or.inr (Or.inl rfl) | exact Or.inr (Or.inr (Or.inl rfl)) | exact Or.inr (Or.inr (Or.inr (Or.inl ⟨rfl, HP.tok_odd _⟩))) | exact Or.inr (Or.inr (Or.inr (Or.inr ⟨rfl, HP.tok_even _⟩))) | exact Or.inr (Or.inr (Or.inr (Or.inr ⟨rfl, by assumption⟩))) | exact Or.inr ⟨rfl, by assumption⟩ | exact Or.inr (Or.inl ⟨rfl, by assumption⟩) | exact Or.inr (Or.inr ⟨rfl, by assumption⟩) | exact Or.inr (Or.inr (Or.inr (Or.inl ⟨rfl, by assumption⟩))) | exact Or.inr (Or.inr (Or.inl ⟨rfl, HP.tok_odd _⟩)) | exact Or.inr (Or.inr (Or.inl ⟨rfl, by assumption⟩)) | exact Or.inr (Or.inr (Or.inr rfl)) | exact Or.inr (Or.inr rfl) | exact Or.inr rfl) EVx rfl (R.row i hiN) rfl (by rw [pos_length, rowP_len]; omega) (two_one _) ((pos_set _ (by rw [rowP_len]; exact hkN)).trans (congrArg pos (colA_set w hk2))) ?_
        repeat (first | refine S0 ?_ | refine S1 ?_ | refine S2 ?_ | refine S3 ?_ | refine S4 ?_ | refine S5 ?_ | refine S6 ?_ | refine S7 ?_ | refine S8 ?_ | refine S9 ?_ | refine S10 ?_ | refine S11 ?_ | refine S13 ?_ | refine S15 ?_ | refine S16 ?_ | refine S19 ?_ | refine S20 ?_ | refine S21 ?_ | refine S22 ?_ | refine S23 ?_ | refine S24 ?_ | refine S27 ?_ | refine S28 ?_ | refine S29 ?_ | refine S30 ?_ | refine S33 ?_ | refine S48 ?_ | refine S66 ?_ | refine S68 ?_ | refine S69 ?_)
        exact ⟨k + 1, by omega, SLx, ⟨R.turn hiN (Nat.le_refl _) (HP.set_same _ _ _) (fun q _ _ q3 => HP.set_other _ _ q3) (fun r _ hr => colA_oth w hr), (HP.set_other _ _ (by omega)).trans b1, show 1 ≤ h3.next by omega⟩, by omega⟩
      · obtain rfl : q = k := by omega
        repeat (first | refine S0 ?_ | refine S1 ?_ | refine S2 ?_ | refine S3 ?_ | refine S4 ?_ | refine S5 ?_ | refine S6 ?_ | refine S7 ?_ | refine S8 ?_ | refine S9 ?_ | refine S10 ?_ | refine S11 ?_ | refine S13 ?_ | refine S15 ?_ | refine S16 ?_ | refine S19 ?_ | refine S20 ?_ | refine S21 ?_ | refine S22 ?_ | refine S23 ?_ | refine S24 ?_ | refine S27 ?_ | refine S28 ?_ | refine S29 ?_ | refine S30 ?_ | refine S33 ?_ | refine S48 ?_ | refine S66 ?_ | refine S68 ?_ | refine S69 ?_)
        refine ⟨i + 1, by omega, SLx, ⟨R.cong (fun j _ => colA_end), b1, n1⟩, by omega⟩
    · obtain rfl : q = i := by omega
      have hL : alL N w = lapP (MA w) (List.range q) (List.range q) := by unfold alL; rw [hq]
      have kx := expand_s hsM (by omega) (List.range q) (List.range q) rfl (by simp; omega)
      have hsL : Sup 150 (alL N w) := by
        rw [hL]
        refine (lapP_sup hsM (List.range q) (List.range q)).mono ?_
        rw [List.length_range]; omega
      have hbd := poW_bd hsL (by omega)
      have kn := normalW_s (p := poW (alL N w)) (poW_canon _) (poW_64 _) (by omega) (by omega)
      rw [← hL] at kx
      generalize poW (alL N w) = P1 at *
      generalize nrmW P1 = P2 at *
      obtain ⟨l1, c1⟩ := P1
      obtain ⟨l2, c2⟩ := P2
      refine CW.frzRows (N := N) (q := q) (T := T) (tk := tk) (rows := rowP (colA w q q 0) N) (by omega) hT1 R.ev R.ne R.inj (fun i => rowP_len _ _ _) (fun hX HX => ?_) q 0 h1 (by omega) ⟨?_, fun i _ hi => R.row i (by omega), b1⟩
      · have HX1 := HX.c1
        refine CW.freeze 7 (tk := T) (off := 0) (sz := 1) (m := q) (v := ppss ((List.range q).map (rowP (MA w) q))) rfl HX.out (by simp; omega) ?_ ?_
        · unfold ppss
          rw [List.length_map, List.length_range, List.drop_zero, Nat.mul_one]
          refine congrArg (PV.lst false 1 q) ?_
          rw [← List.map_take, List.take_range, Nat.min_eq_left (by omega), List.map_map]
          refine List.map_congr_left (fun i hi => ?_)
          have hi' := List.mem_range.1 hi
          rw [if_pos hi', colA_take w hi' (by omega)]; rfl
        repeat (first | refine S0 ?_ | refine S1 ?_ | refine S2 ?_ | refine S3 ?_ | refine S4 ?_ | refine S5 ?_ | refine S6 ?_ | refine S7 ?_ | refine S8 ?_ | refine S9 ?_ | refine S10 ?_ | refine S11 ?_ | refine S13 ?_ | refine S15 ?_ | refine S16 ?_ | refine S19 ?_ | refine S20 ?_ | refine S21 ?_ | refine S22 ?_ | refine S23 ?_ | refine S24 ?_ | refine S27 ?_ | refine S28 ?_ | refine S29 ?_ | refine S30 ?_ | refine S33 ?_ | refine S48 ?_ | refine S66 ?_ | refine S68 ?_ | refine S69 ?_)
        refine Scall (args := [ppss ((List.range q).map (rowP (MA w) q))]) kx ?_
        repeat (first | refine S0 ?_ | refine S1 ?_ | refine S2 ?_ | refine S3 ?_ | refine S4 ?_ | refine S5 ?_ | refine S6 ?_ | refine S7 ?_ | refine S8 ?_ | refine S9 ?_ | refine S10 ?_ | refine S11 ?_ | refine S13 ?_ | refine S15 ?_ | refine S16 ?_ | refine S19 ?_ | refine S20 ?_ | refine S21 ?_ | refine S22 ?_ | refine S23 ?_ | refine S24 ?_ | refine S27 ?_ | refine S28 ?_ | refine S29 ?_ | refine S30 ?_ | refine S33 ?_ | refine S48 ?_ | refine S66 ?_ | refine S68 ?_ | refine S69 ?_)
        refine Scall (args := [ppo (l1, c1)]) kn ?_
        repeat (first | refine S0 ?_ | refine S1 ?_ | refine S2 ?_ | refine S3 ?_ | refine S4 ?_ | refine S5 ?_ | refine S6 ?_ | refine S7 ?_ | refine S8 ?_ | refine S9 ?_ | refine S10 ?_ | refine S11 ?_ | refine S13 ?_ | refine S15 ?_ | refine S16 ?_ | refine S19 ?_ | refine S20 ?_ | refine S21 ?_ | refine S22 ?_ | refine S23 ?_ | refine S24 ?_ | refine S27 ?_ | refine S28 ?_ | refine S29 ?_ | refine S30 ?_ | refine S33 ?_ | refine S48 ?_ | refine S66 ?_ | refine S68 ?_ | refine S69 ?_)
        exact ⟨.inr rfl, FR.cellTmp rfl HBx rfl rfl rfl (Fz.pair (.cl (by simp only [PV.cl, PV.cl.clL, pint_cl, pli_cl, Bool.and_self])) (.cl rfl))⟩
      · rw [R.out]
        refine congrArg some (List.map_congr_left fun i _ => ?_)
        rw [if_neg (Nat.not_lt_zero i)]
end Go.Proofs.Ytenoiklocdoemaa
