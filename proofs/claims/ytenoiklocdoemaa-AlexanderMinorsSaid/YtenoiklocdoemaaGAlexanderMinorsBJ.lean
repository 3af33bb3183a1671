/- braid.Matrix: the Burau matrix, in rows of its own. No condition of its own. -/
import Derived.Test.YtenoiklocdoemaaGAlexanderMinorsBE
import Derived.Test.YtenoiklocdoemaaGAlexanderMinorsBF
import Derived.Test.YtenoiklocdoemaaGAlexanderMinorsBG
import Derived.Test.YtenoiklocdoemaaGAlexanderMinorsBH
import Derived.Test.YtenoiklocdoemaaGAlexanderMinorsBI
set_option linter.unusedVariables false
set_option linter.unusedSimpArgs false
namespace Go.Proofs.Ytenoiklocdoemaa
open Go.RowKit

/-- the outer slice: k rows are there -/
def outC (n : Nat) (tk : Nat → Nat) (k : Nat) : List PV := (List.range n).map fun j => if j < k then PV.ref (tk j) 0 2 n else .lst true 0 0 []
theorem outC_len (n : Nat) (tk : Nat → Nat) (k : Nat) : (outC n tk k).length = n := by simp [outC]
theorem outC_get {n : Nat} {tk : Nat → Nat} {k j : Nat} (h : j < k) (hn : j < n) : (outC n tk k)[j]? = some (.ref (tk j) 0 2 n) := by simp [outC, hn, h]
theorem outC_set {n : Nat} {tk : Nat → Nat} {k T : Nat} (h : k < n) : (outC n tk k).set k (.ref T 0 2 n) = outC n (fun j => if j = k then T else tk j) (k + 1) := by
  apply List.ext_getElem (by simp [outC])
  intro j g1 g2
  rw [List.getElem_set]
  simp only [outC, List.getElem_map, List.getElem_range]
  by_cases e : k = j
  · subst e; rw [if_pos rfl, if_pos (by omega), if_pos rfl]
  · rw [if_neg e]
    by_cases h2 : j < k
    · rw [if_pos h2, if_pos (by omega), if_neg (fun e2 => e e2.symm)]
    · rw [if_neg h2, if_neg (by omega)]
/-- k rows of a matrix lie in blocks of their own -/
structure Rows (n k T : Nat) (tk : Nat → Nat) (rows : Nat → List Po) (h : HP) : Prop where
  out : h.blk T = some (outC n tk k)
  row : ∀ j, j < k → h.blk (tk j) = some (pos (rows j))
  inj : ∀ i j, i < k → j < k → tk i = tk j → i = j
  ne : ∀ j, j < k → tk j ≠ T
  ev : ∀ j, j < k → tk j % 2 = 0
  evT : T % 2 = 0
  lt : ∀ j, j < k → tk j < 2 * h.next
  ltT : T < 2 * h.next
/-- what is not touched stays -/
theorem Rows.keep {n k T : Nat} {tk : Nat → Nat} {rows : Nat → List Po} {h h' : HP} (H : Rows n k T tk rows h) (hn : h.next ≤ h'.next) (hb : ∀ t, t % 2 = 0 → t < 2 * h.next → h'.blk t = h.blk t) : Rows n k T tk rows h' :=
  ⟨by rw [hb T H.evT H.ltT]; exact H.out, fun j hj => by rw [hb _ (H.ev j hj) (H.lt j hj)]; exact H.row j hj, H.inj, H.ne, H.ev, H.evT, fun j hj => by have := H.lt j hj; omega, by have := H.ltT; omega⟩
/-- one row is turned -/
theorem Rows.turn {n k T : Nat} {tk : Nat → Nat} {rows rows' : Nat → List Po} {h : HP} (H : Rows n k T tk rows h) {j : Nat} (hj : j < k) (h2 : ∀ i, i < k → i ≠ j → rows' i = rows i) : Rows n k T tk rows' (h.set (tk j) (pos (rows' j))) := by
  refine ⟨?_, fun i hi => ?_, H.inj, H.ne, H.ev, H.evT, H.lt, H.ltT⟩
  · exact (HP.set_other _ _ (fun e => H.ne j hj e.symm)).trans H.out
  · by_cases e : i = j
    · subst e; exact HP.set_same _ _ _
    · rw [h2 i hi e]
      exact (HP.set_other _ _ (fun e2 => e (H.inj i j hi hj e2))).trans (H.row i hi)
theorem trim_two (l a b : Int) (hl : -1000 ≤ l ∧ l ≤ 1000) (ha : in64 a) (hb : in64 b) : SC Try.prog 57 [pint l, .lst true 1 2 [pint a, pint b]] (ppo (poW (LP.mono a l + LP.mono b (l + 1)))) := by
  have h := trim_s l [a, b] (by omega) (by simp)
  rw [cano_two l a b ha hb] at h
  refine h.wk rfl (fun i hi => ?_)
  match i, hi with
  | 0, _ => exact .refl _
  | 1, _ => exact .lst (ds := [pint a, pint b]) rfl (fun j _ => .refl _)
  | i + 2, hi => exact absurd hi (by simp)
theorem two_one (p : Po) : ∀ q ∈ [pint p.1, pli p.2], q.one = true := fun q hq => by
  simp only [List.mem_cons, List.not_mem_nil, or_false] at hq
  rcases hq with rfl | rfl <;> rfl
/-- one more row -/
theorem Rows.push {n k T T' : Nat} {tk tk2 : Nat → Nat} {rows : Nat → List Po} {h X : HP} (R : Rows n k T tk rows h) (ev : T' % 2 = 0) (hT' : T' = 2 * h.next) (hX : X.next = h.next + 1) (hXb : ∀ t, t ≠ T' → X.blk t = h.blk t) (t2k : tk2 k = T') (t2o : ∀ j, j < k → tk2 j = tk j) (P0 : List PV) :
    Rows n (k + 1) T tk2 rows (((X.set T (outC n tk2 (k + 1))).set T' P0).set T' (pos (rows k))) := by
  have hl := R.ltT
  have hne : T ≠ T' := by omega
  refine ⟨(HP.set_other _ _ hne).trans ((HP.set_other _ _ hne).trans (HP.set_same _ _ _)), fun j hj => ?_, fun i j hi hj e => ?_, fun j hj => ?_, fun j hj => ?_, R.evT, fun j hj => ?_, by show T < 2 * X.next; omega⟩
  · by_cases e : j = k
    · subst e; rw [t2k]; exact HP.set_same _ _ _
    · have hj2 : j < k := by omega
      have g1 := R.lt j hj2
      have g2 : tk j ≠ T' := by omega
      rw [t2o j hj2]
      exact (HP.set_other _ _ g2).trans ((HP.set_other _ _ g2).trans ((HP.set_other _ _ (R.ne j hj2)).trans ((hXb _ g2).trans (R.row j hj2))))
  · by_cases e1 : i = k
    · by_cases e2 : j = k
      · omega
      · have g := R.lt j (by omega)
        rw [e1, t2k, t2o j (by omega)] at e; omega
    · by_cases e2 : j = k
      · have g := R.lt i (by omega)
        rw [e2, t2k, t2o i (by omega)] at e; omega
      · rw [t2o i (by omega), t2o j (by omega)] at e
        exact R.inj i j (by omega) (by omega) e
  · by_cases e : j = k
    · rw [e, t2k]; omega
    · rw [t2o j (by omega)]; exact R.ne j (by omega)
  · by_cases e : j = k
    · rw [e, t2k]; exact ev
    · rw [t2o j (by omega)]; exact R.ev j (by omega)
  · show _ < 2 * X.next
    by_cases e : j = k
    · rw [e, t2k]; omega
    · rw [t2o j (by omega)]; have := R.lt j (by omega); omega
theorem pos_set {l : List Po} {i : Nat} (p : Po) (h : i < l.length) : (pos l).take (i * 2) ++ [pint p.1, pli p.2] ++ (pos l).drop (i * 2 + 2) = pos (l.set i p) := by
  rw [show i * 2 + 2 = (i + 1) * 2 by omega, pos_take, pos_drop, show [pint p.1, pli p.2] = pos [p] from rfl, pos_append, pos_append]
  congr 1
  rw [List.set_eq_take_append_cons_drop, if_pos h, List.append_assoc]; rfl
theorem nrm_rep (n : Nat) : ((List.replicate n [PV.sc (.int .i64 0), .lst true 0 0 []]).flatten).map PV.nrm0 = pos (List.replicate n (0, [])) := by
  induction n with
  | zero => rfl
  | succ n ih =>
    rw [List.replicate_succ, List.flatten_cons, List.map_append, ih, List.replicate_succ]; rfl
/-- the block of a letter, in cells -/
noncomputable def mcl (x : Int) : List PV := [pint (poW (e00 x)).1, pli (poW (e00 x)).2, pint (poW (e01 x)).1, pli (poW (e01 x)).2, pint (poW (e10 x)).1, pli (poW (e10 x)).2, pint (poW (e11 x)).1, pli (poW (e11 x)).2]
/-- rows that are alike -/
theorem Rows.cong {n k T : Nat} {tk : Nat → Nat} {rows rows' : Nat → List Po} {h : HP} (H : Rows n k T tk rows h) (e : ∀ j, j < k → rows j = rows' j) : Rows n k T tk rows' h :=
  ⟨H.out, fun j hj => by rw [← e j hj]; exact H.row j hj, H.inj, H.ne, H.ev, H.evT, H.lt, H.ltT⟩
theorem mcl_top (x : Int) {c : Nat} (h : c < 2) : ((mcl x).drop (c * 2)).take 2 = [pint (poW (eT x c)).1, pli (poW (eT x c)).2] := by
  rcases (show c = 0 ∨ c = 1 by omega) with rfl | rfl <;> rfl
theorem mcl_bot (x : Int) {c : Nat} (h : c < 2) : ((mcl x).drop (4 + c * 2)).take 2 = [pint (poW (eB x c)).1, pli (poW (eB x c)).2] := by
  rcases (show c = 0 ∨ c = 1 by omega) with rfl | rfl <;> rfl
theorem ones_8 {a b c d : Int} {p q r s : List Int} : ∀ v ∈ [pint a, pli p, pint b, pli q, pint c, pli r, pint d, pli s], v.one = true := fun v hv => by
  simp only [List.mem_cons, List.not_mem_nil, or_false] at hv
  rcases hv with rfl | rfl | rfl | rfl | rfl | rfl | rfl | rfl <;> rfl
theorem mcl_pos {x : Int} (h : 0 < x) : [pint (poW (LP.mono 1 0 + LP.mono (-1) (0 + 1))).1, pli (poW (LP.mono 1 0 + LP.mono (-1) (0 + 1))).2, pint (poW (LP.mono 1 1)).1, pli (poW (LP.mono 1 1)).2, pint (poW (LP.mono 1 0)).1, pli (poW (LP.mono 1 0)).2, pint 0, pli []] = mcl x := by
  unfold mcl e00 e01 e10 e11
  rw [if_pos h, if_pos h, if_pos h, if_pos h, poW_zero, ← LP.one_eq]; rfl
theorem mcl_neg {x : Int} (h : x < 0) : [pint 0, pli [], pint (poW (LP.mono 1 0)).1, pli (poW (LP.mono 1 0)).2, pint (poW (LP.mono 1 (-1))).1, pli (poW (LP.mono 1 (-1))).2, pint (poW (LP.mono (-1) (-1) + LP.mono 1 (-1 + 1))).1, pli (poW (LP.mono (-1) (-1) + LP.mono 1 (-1 + 1))).2] = mcl x := by
  unfold mcl e00 e01 e10 e11
  have h2 : ¬ 0 < x := by omega
  rw [if_neg h2, if_neg h2, if_neg h2, if_neg h2, poW_zero, show (-1 + 1 : Int) = 0 from rfl, ← LP.one_eq, LP.add_comm (LP.mono (-1) (-1)) 1]
set_option maxHeartbeats 16000000 in
set_option maxRecDepth 100000 in
theorem matrix_e {n : Nat} {w : List Int} (hn : 1 ≤ n ∧ n ≤ 6) (hl : w.length ≤ 30) (hw : ∀ x ∈ w, letP n x) (h : HP) : SChE Try.prog 28 [pint n, pli w] h (fun r h' => ∃ T tk, r = .ref T 0 1 n ∧ Rows n n T tk (rowP (burM w) n) h' ∧ Fr [] h h') := by
  refine SChE.go { wc := [12], rb := [51, 52, 57, 58], ss := [12], pc := [48, 49], al := [14, 15], rl := [72, 76, 80, 83], so := [14, 15] } tok mixed Try.func28 rfl rfl Try.ntmps28 rfl rfl (by kernel_rfl) (fun hw0 => ?_)
  first | simp only [updS] | simp only [updL, Nat.reduceAdd]
  repeat (first | refine S0 ?_ | refine S1 ?_ | refine S2 ?_ | refine S3 ?_ | refine S4 ?_ | refine S5 ?_ | refine S6 ?_ | refine S7 ?_ | refine S8 ?_ | refine S10 ?_ | refine S11 ?_ | refine S13 ?_ | refine S15 ?_ | refine S16 ?_ | refine S19 ?_ | refine S20 ?_ | refine S21 ?_ | refine S22 ?_ | refine S23 ?_ | refine S24 ?_ | refine S25 ?_ | refine S26 ?_ | refine S27 ?_ | refine S33 ?_ | refine S48 ?_ | refine S49 ?_ | refine S66 ?_ | refine S68 ?_ | refine S69 ?_ | refine S72 ?_)
  obtain ⟨T, hT⟩ : ∃ T, T = h.tok false := ⟨_, rfl⟩
  have hTe : T % 2 = 0 := by rw [hT]; exact HP.tok_even _
  have hTn : T = 2 * h.next := by rw [hT, HP.tokF]
  rw [← hT]
  refine CW.loopS (fun i : Nat × (Nat → Nat) => i.1 ≤ n) (fun i => [(0, pint n), (1, pli w), (5, .ref T 0 1 n), (20, pint n), (21, pint i.1)])
    (fun i hp => Rows n i.1 T i.2 (rowP unitM n) hp ∧ Fr [] h hp ∧ ∀ j, j < i.1 → 2 * h.next ≤ i.2 j) (fun i => n - i.1) (0, fun _ => 0) ⟨Nat.zero_le _, ?_, ?_⟩ ?_
  · exact SLx
  · dsimp only
    have hb0 : (h.add false (List.replicate n (PV.lst true 0 0 []))).blk T = some (outC n (fun _ => 0) 0) := by
      rw [hT, HP.add_same]
      exact congrArg some (List.ext_getElem (by simp [outC]) (fun j g1 g2 => by simp [outC]))
    exact ⟨⟨hb0, fun j hj => absurd hj (Nat.not_lt_zero _), fun _ _ hj => absurd hj (Nat.not_lt_zero _), fun _ hj => absurd hj (Nat.not_lt_zero _), fun _ hj => absurd hj (Nat.not_lt_zero _), hTe, fun _ hj => absurd hj (Nat.not_lt_zero _), by rw [HP.next_add]; omega⟩, (Fr.refl [] h).add _ _, fun _ hj => absurd hj (Nat.not_lt_zero _)⟩
  · rintro ⟨k, tk⟩ t h1 hk ⟨R, F, G⟩
    simp only at hk R G
    first | simp only [updS] | simp only [updL, Nat.reduceAdd]
    by_cases hk2 : k < n
    · have b0 := R.out
      have l0 := R.ltT
      repeat (first | refine S0 ?_ | refine S1 ?_ | refine S2 ?_ | refine S3 ?_ | refine S4 ?_ | refine S5 ?_ | refine S6 ?_ | refine S7 ?_ | refine S8 ?_ | refine S10 ?_ | refine S11 ?_ | refine S13 ?_ | refine S15 ?_ | refine S16 ?_ | refine S19 ?_ | refine S20 ?_ | refine S21 ?_ | refine S22 ?_ | refine S23 ?_ | refine S24 ?_ | refine S25 ?_ | refine S26 ?_ | refine S27 ?_ | refine S33 ?_ | refine S48 ?_ | refine S49 ?_ | refine S66 ?_ | refine S68 ?_ | refine S69 ?_ | refine S72 ?_)
      refine AW.mks (by first | exact Or.inl rfl | exact Or.inr rfl) (by simp only [evA, upd, putA, ofConst, ofConst.ofCell, Nat.reduceEqDiff, ↓reduceIte, List.map_cons, List.map_nil, List.toList_toArray]; first | done | rfl) (by simp only [evA, upd, putA, ofConst, ofConst.ofCell, Nat.reduceEqDiff, ↓reduceIte, List.map_cons, List.map_nil, List.toList_toArray]; first | done | rfl) rfl ⟨by omega, by omega, by omega, by omega⟩ ?_
      obtain ⟨T', hT'⟩ : ∃ T', T' = h1.tok false := ⟨_, rfl⟩
      have hTn' : T' = 2 * h1.next := by rw [hT', HP.tokF]
      rw [← hT', Int.toNat_natCast]
      have hne : T' ≠ T := by omega
      repeat (first | refine S0 ?_ | refine S1 ?_ | refine S2 ?_ | refine S3 ?_ | refine S4 ?_ | refine S5 ?_ | refine S6 ?_ | refine S7 ?_ | refine S8 ?_ | refine S10 ?_ | refine S11 ?_ | refine S13 ?_ | refine S15 ?_ | refine S16 ?_ | refine S19 ?_ | refine S20 ?_ | refine S21 ?_ | refine S22 ?_ | refine S23 ?_ | refine S24 ?_ | refine S25 ?_ | refine S26 ?_ | refine S27 ?_ | refine S33 ?_ | refine S48 ?_ | refine S49 ?_ | refine S66 ?_ | refine S68 ?_ | refine S69 ?_ | refine S72 ?_)
      rw [show 0 + (k : Int).toNat * 1 = k by simp]
      obtain ⟨tk2, htk2⟩ : ∃ tk2 : Nat → Nat, tk2 = fun j => if j = k then T' else tk j := ⟨_, rfl⟩
      have t2k : tk2 k = T' := by rw [htk2]; exact if_pos rfl
      have t2o : ∀ j, j < k → tk2 j = tk j := fun j hj => by rw [htk2]; exact if_neg (by omega)
      have hset := outC_set (tk := tk) (T := T') hk2
      rw [← htk2] at hset
      refine AW.stR (r := outC n tk2 (k + 1)) (by simp only [evA, upd, putA, ofConst, ofConst.ofCell, Nat.reduceEqDiff, ↓reduceIte, List.map_cons, List.map_nil, List.toList_toArray]; first | done | rfl) (by first | exact Or.inl rfl | exact Or.inr ⟨rfl, HP.tok_even _⟩ | exact Or.inr (Or.inl ⟨rfl, HP.tok_even _⟩) | exact Or.inr (Or.inr ⟨rfl, HP.tok_odd _⟩) | exact Or.inr (Or.inl rfl) | exact Or.inr (Or.inr (Or.inl rfl)) | exact Or.inr (Or.inr (Or.inr (Or.inl ⟨rfl, HP.tok_odd _⟩))) | exact Or.inr (Or.inr (Or.inr (Or.inr ⟨rfl, HP.tok_even _⟩))) | exact Or.inr (Or.inr (Or.inr (Or.inr ⟨rfl, by assumption⟩))) | exact Or.inr ⟨rfl, by assumption⟩ | exact Or.inr (Or.inl ⟨rfl, by assumption⟩) | exact Or.inr (Or.inr ⟨rfl, by assumption⟩) | exact Or.inr (Or.inr (Or.inr (Or.inl ⟨rfl, by assumption⟩))) | exact Or.inr (Or.inr (Or.inl ⟨rfl, HP.tok_odd _⟩)) | exact Or.inr (Or.inr (Or.inl ⟨rfl, by assumption⟩)) | exact Or.inr (Or.inr (Or.inr rfl)) | exact Or.inr (Or.inr rfl) | exact Or.inr rfl) (by simp only [evA, upd, putA, ofConst, ofConst.ofCell, Nat.reduceEqDiff, ↓reduceIte, List.map_cons, List.map_nil, List.toList_toArray]; first | done | rfl) rfl ((HP.add_other _ _ _ (fun e => by rw [← hT'] at e; omega)).trans b0) (by rw [outC_len]; omega) (by first | rfl | (simp only [PV.one, pint, pfr]; done)) hset ?_
      refine AW.nil ?_
      refine TQ.nm ?_
      refine CW.nrmB T' ((HP.set_other _ _ hne).trans (by rw [hT']; exact HP.add_same _ _ _)) (nrm_rep n) ?_
      repeat (first | refine S0 ?_ | refine S1 ?_ | refine S2 ?_ | refine S3 ?_ | refine S4 ?_ | refine S5 ?_ | refine S6 ?_ | refine S7 ?_ | refine S8 ?_ | refine S10 ?_ | refine S11 ?_ | refine S13 ?_ | refine S15 ?_ | refine S16 ?_ | refine S19 ?_ | refine S20 ?_ | refine S21 ?_ | refine S22 ?_ | refine S23 ?_ | refine S24 ?_ | refine S25 ?_ | refine S26 ?_ | refine S27 ?_ | refine S33 ?_ | refine S48 ?_ | refine S49 ?_ | refine S66 ?_ | refine S68 ?_ | refine S69 ?_ | refine S72 ?_)
      rw [show 0 + (k : Int).toNat * 1 = k by simp]
      refine AW.ldm EVx (by first | exact Or.inl rfl | exact Or.inr ⟨rfl, HP.tok_even _⟩ | exact Or.inr (Or.inl ⟨rfl, HP.tok_even _⟩) | exact Or.inr (Or.inr ⟨rfl, HP.tok_odd _⟩) | exact Or.inr (Or.inl rfl) | exact Or.inr (Or.inr (Or.inl rfl)) | exact Or.inr (Or.inr (Or.inr (Or.inl ⟨rfl, HP.tok_odd _⟩))) | exact Or.inr (Or.inr (Or.inr (Or.inr ⟨rfl, HP.tok_even _⟩))) | exact Or.inr (Or.inr (Or.inr (Or.inr ⟨rfl, by assumption⟩))) | exact Or.inr ⟨rfl, by assumption⟩ | exact Or.inr (Or.inl ⟨rfl, by assumption⟩) | exact Or.inr (Or.inr ⟨rfl, by assumption⟩) | exact Or.inr (Or.inr (Or.inr (Or.inl ⟨rfl, by assumption⟩))) | exact Or.inr (Or.inr (Or.inl ⟨rfl, HP.tok_odd _⟩)) | exact Or.inr (Or.inr (Or.inl ⟨rfl, by assumption⟩)) | exact Or.inr (Or.inr (Or.inr rfl)) | exact Or.inr (Or.inr rfl) | exact Or.inr rfl) rfl (HBx) (outC_get (k := k + 1) (by omega) hk2) ?_
      repeat (first | refine S0 ?_ | refine S1 ?_ | refine S2 ?_ | refine S3 ?_ | refine S4 ?_ | refine S5 ?_ | refine S6 ?_ | refine S7 ?_ | refine S8 ?_ | refine S10 ?_ | refine S11 ?_ | refine S13 ?_ | refine S15 ?_ | refine S16 ?_ | refine S19 ?_ | refine S20 ?_ | refine S21 ?_ | refine S22 ?_ | refine S23 ?_ | refine S24 ?_ | refine S25 ?_ | refine S26 ?_ | refine S27 ?_ | refine S33 ?_ | refine S48 ?_ | refine S49 ?_ | refine S66 ?_ | refine S68 ?_ | refine S69 ?_ | refine S72 ?_)
      refine Scall (args := [pint 1, pint 0]) (termW_s 1 0 (by unfold in64; omega) (by omega)) ?_
      rw [t2k]
      repeat (first | refine S0 ?_ | refine S1 ?_ | refine S2 ?_ | refine S3 ?_ | refine S4 ?_ | refine S5 ?_ | refine S6 ?_ | refine S7 ?_ | refine S8 ?_ | refine S10 ?_ | refine S11 ?_ | refine S13 ?_ | refine S15 ?_ | refine S16 ?_ | refine S19 ?_ | refine S20 ?_ | refine S21 ?_ | refine S22 ?_ | refine S23 ?_ | refine S24 ?_ | refine S25 ?_ | refine S26 ?_ | refine S27 ?_ | refine S33 ?_ | refine S48 ?_ | refine S49 ?_ | refine S66 ?_ | refine S68 ?_ | refine S69 ?_ | refine S72 ?_)
      rw [show 0 + (k : Int).toNat * 2 = k * 2 by simp]
      refine AW.staR (r := pos (rowP unitM n k)) EVx (by first | exact Or.inl rfl | exact Or.inr ⟨rfl, HP.tok_even _⟩ | exact Or.inr (Or.inl ⟨rfl, HP.tok_even _⟩) | exact Or.inr (Or.inr ⟨rfl, HP.tok_odd _⟩) | exact Or.inr (Or.inl rfl) | exact Or.inr (Or.inr (Or.inl rfl)) | exact Or.inr (Or.inr (Or.inr (Or.inl ⟨rfl, HP.tok_odd _⟩))) | exact Or.inr (Or.inr (Or.inr (Or.inr ⟨rfl, HP.tok_even _⟩))) | exact Or.inr (Or.inr (Or.inr (Or.inr ⟨rfl, by assumption⟩))) | exact Or.inr ⟨rfl, by assumption⟩ | exact Or.inr (Or.inl ⟨rfl, by assumption⟩) | exact Or.inr (Or.inr ⟨rfl, by assumption⟩) | exact Or.inr (Or.inr (Or.inr (Or.inl ⟨rfl, by assumption⟩))) | exact Or.inr (Or.inr (Or.inl ⟨rfl, HP.tok_odd _⟩)) | exact Or.inr (Or.inr (Or.inl ⟨rfl, by assumption⟩)) | exact Or.inr (Or.inr (Or.inr rfl)) | exact Or.inr (Or.inr rfl) | exact Or.inr rfl) EVx rfl (HP.set_same _ _ _) rfl (by rw [pos_length, List.length_replicate]; omega) (two_one _) ((pos_set _ (by rw [List.length_replicate]; exact hk2)).trans (by rw [rowP_unit])) ?_
      repeat (first | refine S0 ?_ | refine S1 ?_ | refine S2 ?_ | refine S3 ?_ | refine S4 ?_ | refine S5 ?_ | refine S6 ?_ | refine S7 ?_ | refine S8 ?_ | refine S10 ?_ | refine S11 ?_ | refine S13 ?_ | refine S15 ?_ | refine S16 ?_ | refine S19 ?_ | refine S20 ?_ | refine S21 ?_ | refine S22 ?_ | refine S23 ?_ | refine S24 ?_ | refine S25 ?_ | refine S26 ?_ | refine S27 ?_ | refine S33 ?_ | refine S48 ?_ | refine S49 ?_ | refine S66 ?_ | refine S68 ?_ | refine S69 ?_ | refine S72 ?_)
      obtain ⟨X, hX⟩ : ∃ X, X = h1.add false (List.replicate n (List.map ofConst.ofCell [Value.int .i64 0, Value.slice none 0 0])).flatten := ⟨_, rfl⟩
      have hXn : X.next = h1.next + 1 := by rw [hX]; rfl
      have hXb : ∀ t, t ≠ T' → X.blk t = h1.blk t := fun t ht => by rw [hX]; exact HP.add_other _ _ _ (by rw [← hT']; exact ht)
      have hXf : Fr [] h X := by rw [hX]; exact F.add _ _
      have hFn := F.next
      refine ⟨(k + 1, tk2), by simp only; omega, SLx, ?_, by simp only; omega⟩
      simp only
      rw [← hX]
      refine ⟨R.push (by omega) hTn' hXn hXb t2k t2o _, ((hXf.set _ (.inr (by omega))).set _ (.inr (by omega))).set _ (.inr (by omega)), fun j hj => ?_⟩
      by_cases e : j = k
      · rw [e, t2k]; omega
      · rw [t2o j (by omega)]; exact G j (by omega)
    · obtain rfl : n = k := by omega
      repeat (first | refine S0 ?_ | refine S1 ?_ | refine S2 ?_ | refine S3 ?_ | refine S4 ?_ | refine S5 ?_ | refine S6 ?_ | refine S7 ?_ | refine S8 ?_ | refine S10 ?_ | refine S11 ?_ | refine S13 ?_ | refine S15 ?_ | refine S16 ?_ | refine S19 ?_ | refine S20 ?_ | refine S21 ?_ | refine S22 ?_ | refine S23 ?_ | refine S24 ?_ | refine S25 ?_ | refine S26 ?_ | refine S27 ?_ | refine S33 ?_ | refine S48 ?_ | refine S49 ?_ | refine S66 ?_ | refine S68 ?_ | refine S69 ?_ | refine S72 ?_)
      refine Scall (args := [pint 1, pint 0]) (termW_s 1 0 (by unfold in64; omega) (by omega)) ?_
      iterate 7 (first | refine S0 ?_ | refine S1 ?_ | refine S2 ?_ | refine S3 ?_ | refine S4 ?_ | refine S5 ?_ | refine S6 ?_ | refine S7 ?_ | refine S8 ?_ | refine S10 ?_ | refine S11 ?_ | refine S13 ?_ | refine S15 ?_ | refine S16 ?_ | refine S19 ?_ | refine S20 ?_ | refine S21 ?_ | refine S22 ?_ | refine S23 ?_ | refine S24 ?_ | refine S25 ?_ | refine S26 ?_ | refine S27 ?_ | refine S33 ?_ | refine S48 ?_ | refine S49 ?_ | refine S66 ?_ | refine S68 ?_ | refine S69 ?_ | refine S72 ?_)
      obtain ⟨TZ, hTZ⟩ : ∃ TZ, TZ = h1.tok true := ⟨_, rfl⟩
      obtain ⟨TO, hTO⟩ : ∃ TO, TO = (h1.add true [PV.sc (.int .i64 0), .lst true 0 0 []]).tok true := ⟨_, rfl⟩
      have hTZn : TZ = 2 * h1.next + 1 := by rw [hTZ, HP.tokT]
      have hTOn : TO = 2 * (h1.next + 1) + 1 := by rw [hTO, HP.tokT]; rfl
      have hZO : TZ ≠ TO := by omega
      have hTZe : TZ % 2 = 1 := by omega
      have hTOe : TO % 2 = 1 := by omega
      have hFn := F.next
      rw [← hTZ, ← hTO]
      refine CW.nrmB TZ ((HP.set_other _ _ hZO).trans (HP.set_same _ _ _)) (r := [pint 0, pli []]) rfl ?_
      obtain ⟨Oc, hOc⟩ : ∃ Oc : List PV, Oc = [pint (poW (LP.mono 1 0)).1, pli (poW (LP.mono 1 0)).2] := ⟨_, rfl⟩
      repeat (first | refine S0 ?_ | refine S1 ?_ | refine S2 ?_ | refine S3 ?_ | refine S4 ?_ | refine S5 ?_ | refine S6 ?_ | refine S7 ?_ | refine S8 ?_ | refine S10 ?_ | refine S11 ?_ | refine S13 ?_ | refine S15 ?_ | refine S16 ?_ | refine S19 ?_ | refine S20 ?_ | refine S21 ?_ | refine S22 ?_ | refine S23 ?_ | refine S24 ?_ | refine S25 ?_ | refine S26 ?_ | refine S27 ?_ | refine S33 ?_ | refine S48 ?_ | refine S49 ?_ | refine S66 ?_ | refine S68 ?_ | refine S69 ?_ | refine S72 ?_)
      refine CW.loopS (fun i : Nat => i ≤ w.length) (fun i => [(0, pint n), (1, pli w), (5, .ref T 0 1 n), (7, .ptr TZ 0), (8, .ptr TO 0), (39, pli w), (40, pint w.length), (41, pint i)])
        (fun i hp => Rows n n T tk (rowP (burM (w.take i)) n) hp ∧ Fr [] h hp ∧ hp.blk TZ = some [pint 0, pli []] ∧ hp.blk TO = some Oc ∧ TO < 2 * hp.next) (fun i => w.length - i) 0 ⟨Nat.zero_le _, ?_, ?_⟩ ?_
      · exact SLx
      · dsimp only
        rw [List.take_zero]
        refine ⟨R.keep ?_ ?_, ?_, HP.set_same _ _ _, ?_, ?_⟩
        · show h1.next ≤ h1.next + 1 + 1; omega
        · intro t ht ht2
          refine (HP.set_other _ _ (by omega)).trans ((HP.set_other _ _ (by omega)).trans ((HP.set_other _ _ (by omega)).trans ?_))
          refine (HP.add_other _ _ _ (fun e => ?_)).trans (HP.add_other _ _ _ (fun e => ?_))
          · rw [← hTO] at e; omega
          · rw [← hTZ] at e; omega
        · exact (((((F.add _ _).add _ _).set _ (.inr (by omega))).set _ (.inr (by omega))).set _ (.inr (by omega)))
        · rw [hOc]
          exact (HP.set_other _ _ (fun e => hZO e.symm)).trans (HP.set_same _ _ _)
        · show TO < 2 * (h1.next + 1 + 1); omega
      rintro i t h2 hi ⟨R2, F2, bZ, bO, lO⟩
      first | simp only [updS] | simp only [updL, Nat.reduceAdd]
      by_cases hi2 : i < w.length
      · obtain ⟨x, hx⟩ : ∃ x, x = w.getD i 0 := ⟨_, rfl⟩
        have hlx : letP n x := hw x (by rw [hx, getD_lt 0 hi2]; exact List.getElem_mem hi2)
        have hxa : 1 ≤ x.natAbs ∧ x.natAbs < n ∧ -6 < x ∧ x < 6 ∧ absI x = (x.natAbs : Int) := by
          obtain ⟨q1, q2, q3⟩ := hlx
          unfold absI
          refine ⟨by omega, by omega, by omega, by omega, ?_⟩
          split <;> omega
        have htk : w.take (i + 1) = w.take i ++ [x] := by rw [hx, getD_lt 0 hi2, List.take_add_one, List.getElem?_eq_getElem hi2]; rfl
        obtain ⟨A, hA⟩ : ∃ A, A = burM (w.take i) := ⟨_, rfl⟩
        have hA2 : burM (w.take (i + 1)) = stepM A x := by rw [htk, burM_snoc, hA]
        have hsA : ∀ r c, Sup 30 (A r c) := fun r c => by rw [hA]; exact (burM_sup _ r c).mono (by simp only [List.length_take]; omega)
        obtain ⟨m, hm⟩ : ∃ m, m = x.natAbs := ⟨_, rfl⟩
        have hsE : ∀ c, c < 2 → Sup 4000 (eT x c) ∧ Sup 4000 (eB x c) := fun c hc => by
          obtain ⟨q1, q2, q3, q4⟩ := e_two x
          rcases (show c = 0 ∨ c = 1 by omega) with rfl | rfl
          · exact ⟨q1.mono (by omega), q3.mono (by omega)⟩
          · exact ⟨q2.mono (by omega), q4.mono (by omega)⟩
        have hsP : ∀ r c b, Sup 4000 b → Sup 30000 (A r c * b) := fun r c b hb => (Sup.mul (B := 30) (C := 4000) (hsA r c) hb).mono (by omega)
        rw [← hA] at R2
        repeat (first | refine S0 ?_ | refine S1 ?_ | refine S2 ?_ | refine S3 ?_ | refine S4 ?_ | refine S5 ?_ | refine S6 ?_ | refine S7 ?_ | refine S8 ?_ | refine S10 ?_ | refine S11 ?_ | refine S13 ?_ | refine S15 ?_ | refine S16 ?_ | refine S19 ?_ | refine S20 ?_ | refine S21 ?_ | refine S22 ?_ | refine S23 ?_ | refine S24 ?_ | refine S25 ?_ | refine S26 ?_ | refine S27 ?_ | refine S33 ?_ | refine S48 ?_ | refine S49 ?_ | refine S66 ?_ | refine S68 ?_ | refine S69 ?_ | refine S72 ?_)
        rw [← hx]
        repeat (first | refine S0 ?_ | refine S1 ?_ | refine S2 ?_ | refine S3 ?_ | refine S4 ?_ | refine S5 ?_ | refine S6 ?_ | refine S7 ?_ | refine S8 ?_ | refine S10 ?_ | refine S11 ?_ | refine S13 ?_ | refine S15 ?_ | refine S16 ?_ | refine S19 ?_ | refine S20 ?_ | refine S21 ?_ | refine S22 ?_ | refine S23 ?_ | refine S24 ?_ | refine S25 ?_ | refine S26 ?_ | refine S27 ?_ | refine S33 ?_ | refine S48 ?_ | refine S49 ?_ | refine S66 ?_ | refine S68 ?_ | refine S69 ?_ | refine S72 ?_)
        refine Scall (args := [pint x]) (bindex_s x (by omega)) ?_
        rw [hxa.2.2.2.2, ← hm]
        repeat (first | refine S0 ?_ | refine S1 ?_ | refine S2 ?_ | refine S3 ?_ | refine S4 ?_ | refine S5 ?_ | refine S6 ?_ | refine S7 ?_ | refine S8 ?_ | refine S10 ?_ | refine S11 ?_ | refine S13 ?_ | refine S15 ?_ | refine S16 ?_ | refine S19 ?_ | refine S20 ?_ | refine S21 ?_ | refine S22 ?_ | refine S23 ?_ | refine S24 ?_ | refine S25 ?_ | refine S26 ?_ | refine S27 ?_ | refine S33 ?_ | refine S48 ?_ | refine S49 ?_ | refine S66 ?_ | refine S68 ?_ | refine S69 ?_ | refine S72 ?_)
        refine Scall (args := [pint 0, .lst true 1 2 [pint 1, pint (-1)]]) (trim_two 0 1 (-1) (by omega) (by unfold in64; omega) (by unfold in64; omega)) ?_
        repeat (first | refine S0 ?_ | refine S1 ?_ | refine S2 ?_ | refine S3 ?_ | refine S4 ?_ | refine S5 ?_ | refine S6 ?_ | refine S7 ?_ | refine S8 ?_ | refine S10 ?_ | refine S11 ?_ | refine S13 ?_ | refine S15 ?_ | refine S16 ?_ | refine S19 ?_ | refine S20 ?_ | refine S21 ?_ | refine S22 ?_ | refine S23 ?_ | refine S24 ?_ | refine S25 ?_ | refine S26 ?_ | refine S27 ?_ | refine S33 ?_ | refine S48 ?_ | refine S49 ?_ | refine S66 ?_ | refine S68 ?_ | refine S69 ?_ | refine S72 ?_)
        refine Scall (args := [pint 1, pint 1]) (termW_s 1 1 (by unfold in64; omega) (by omega)) ?_
        repeat (first | refine S0 ?_ | refine S1 ?_ | refine S2 ?_ | refine S3 ?_ | refine S4 ?_ | refine S5 ?_ | refine S6 ?_ | refine S7 ?_ | refine S8 ?_ | refine S10 ?_ | refine S11 ?_ | refine S13 ?_ | refine S15 ?_ | refine S16 ?_ | refine S19 ?_ | refine S20 ?_ | refine S21 ?_ | refine S22 ?_ | refine S23 ?_ | refine S24 ?_ | refine S25 ?_ | refine S26 ?_ | refine S27 ?_ | refine S33 ?_ | refine S48 ?_ | refine S49 ?_ | refine S66 ?_ | refine S68 ?_ | refine S69 ?_ | refine S72 ?_)
        rw [hOc] at bO
        repeat (first | refine S0 ?_ | refine S1 ?_ | refine S2 ?_ | refine S3 ?_ | refine S4 ?_ | refine S5 ?_ | refine S6 ?_ | refine S7 ?_ | refine S8 ?_ | refine S10 ?_ | refine S11 ?_ | refine S13 ?_ | refine S15 ?_ | refine S16 ?_ | refine S19 ?_ | refine S20 ?_ | refine S21 ?_ | refine S22 ?_ | refine S23 ?_ | refine S24 ?_ | refine S25 ?_ | refine S26 ?_ | refine S27 ?_ | refine S33 ?_ | refine S48 ?_ | refine S49 ?_ | refine S66 ?_ | refine S68 ?_ | refine S69 ?_ | refine S72 ?_)
        refine AW.blda (r := [pint (poW (LP.mono 1 0 + LP.mono (-1) (0 + 1))).1, pli (poW (LP.mono 1 0 + LP.mono (-1) (0 + 1))).2, pint (poW (LP.mono 1 1)).1, pli (poW (LP.mono 1 1)).2]) rfl EVx rfl rfl ?_
        repeat (first | refine S0 ?_ | refine S1 ?_ | refine S2 ?_ | refine S3 ?_ | refine S4 ?_ | refine S5 ?_ | refine S6 ?_ | refine S7 ?_ | refine S8 ?_ | refine S10 ?_ | refine S11 ?_ | refine S13 ?_ | refine S15 ?_ | refine S16 ?_ | refine S19 ?_ | refine S20 ?_ | refine S21 ?_ | refine S22 ?_ | refine S23 ?_ | refine S24 ?_ | refine S25 ?_ | refine S26 ?_ | refine S27 ?_ | refine S33 ?_ | refine S48 ?_ | refine S49 ?_ | refine S66 ?_ | refine S68 ?_ | refine S69 ?_ | refine S72 ?_)
        refine AW.blda (r := [pint (poW (LP.mono 1 0)).1, pli (poW (LP.mono 1 0)).2, pint 0, pli []]) rfl EVx rfl rfl ?_
        repeat (first | refine S0 ?_ | refine S1 ?_ | refine S2 ?_ | refine S3 ?_ | refine S4 ?_ | refine S5 ?_ | refine S6 ?_ | refine S7 ?_ | refine S8 ?_ | refine S10 ?_ | refine S11 ?_ | refine S13 ?_ | refine S15 ?_ | refine S16 ?_ | refine S19 ?_ | refine S20 ?_ | refine S21 ?_ | refine S22 ?_ | refine S23 ?_ | refine S24 ?_ | refine S25 ?_ | refine S26 ?_ | refine S27 ?_ | refine S33 ?_ | refine S48 ?_ | refine S49 ?_ | refine S66 ?_ | refine S68 ?_ | refine S69 ?_ | refine S72 ?_)
        refine AW.blda (r := [pint (poW (LP.mono 1 0 + LP.mono (-1) (0 + 1))).1, pli (poW (LP.mono 1 0 + LP.mono (-1) (0 + 1))).2, pint (poW (LP.mono 1 1)).1, pli (poW (LP.mono 1 1)).2, pint (poW (LP.mono 1 0)).1, pli (poW (LP.mono 1 0)).2, pint 0, pli []]) rfl EVx rfl rfl ?_
        repeat (first | refine S0 ?_ | refine S1 ?_ | refine S2 ?_ | refine S3 ?_ | refine S4 ?_ | refine S5 ?_ | refine S6 ?_ | refine S7 ?_ | refine S8 ?_ | refine S10 ?_ | refine S11 ?_ | refine S13 ?_ | refine S15 ?_ | refine S16 ?_ | refine S19 ?_ | refine S20 ?_ | refine S21 ?_ | refine S22 ?_ | refine S23 ?_ | refine S24 ?_ | refine S25 ?_ | refine S26 ?_ | refine S27 ?_ | refine S33 ?_ | refine S48 ?_ | refine S49 ?_ | refine S66 ?_ | refine S68 ?_ | refine S69 ?_ | refine S72 ?_)
        obtain ⟨TM, hTM⟩ : ∃ TM, TM = h2.tok false := ⟨_, rfl⟩
        have hTMn : TM = 2 * h2.next := by rw [hTM, HP.tokF]
        have hTMe : TM % 2 = 0 := by omega
        refine AW.alloS rfl rfl (cs := [pint 0, .lst true 0 0 [], pint 0, .lst true 0 0 [], pint 0, .lst true 0 0 [], pint 0, .lst true 0 0 []]) (by simp only [List.map_cons, List.map_nil, ofConst.ofCell]; first | done | rfl) ?_
        rw [← hTM]
        have hbM : (h2.add false [pint 0, .lst true 0 0 [], pint 0, .lst true 0 0 [], pint 0, .lst true 0 0 [], pint 0, .lst true 0 0 []]).blk TM = some [pint 0, .lst true 0 0 [], pint 0, .lst true 0 0 [], pint 0, .lst true 0 0 [], pint 0, .lst true 0 0 []] := by rw [hTM]; exact HP.add_same _ _ _
        refine AW.staR (r := [pint (poW (LP.mono 1 0 + LP.mono (-1) (0 + 1))).1, pli (poW (LP.mono 1 0 + LP.mono (-1) (0 + 1))).2, pint (poW (LP.mono 1 1)).1, pli (poW (LP.mono 1 1)).2, pint (poW (LP.mono 1 0)).1, pli (poW (LP.mono 1 0)).2, pint 0, pli []]) EVx (by first | exact Or.inl rfl | exact Or.inr ⟨rfl, HP.tok_even _⟩ | exact Or.inr (Or.inl ⟨rfl, HP.tok_even _⟩) | exact Or.inr (Or.inr ⟨rfl, HP.tok_odd _⟩) | exact Or.inr (Or.inl rfl) | exact Or.inr (Or.inr (Or.inl rfl)) | exact Or.inr (Or.inr (Or.inr (Or.inl ⟨rfl, HP.tok_odd _⟩))) | exact Or.inr (Or.inr (Or.inr (Or.inr ⟨rfl, HP.tok_even _⟩))) | exact Or.inr (Or.inr (Or.inr (Or.inr ⟨rfl, by assumption⟩))) | exact Or.inr ⟨rfl, by assumption⟩ | exact Or.inr (Or.inl ⟨rfl, by assumption⟩) | exact Or.inr (Or.inr ⟨rfl, by assumption⟩) | exact Or.inr (Or.inr (Or.inr (Or.inl ⟨rfl, by assumption⟩))) | exact Or.inr (Or.inr (Or.inl ⟨rfl, HP.tok_odd _⟩)) | exact Or.inr (Or.inr (Or.inl ⟨rfl, by assumption⟩)) | exact Or.inr (Or.inr (Or.inr rfl)) | exact Or.inr (Or.inr rfl) | exact Or.inr rfl) EVx rfl hbM rfl (Nat.le_refl _) ones_8 rfl ?_
        obtain ⟨X, hX⟩ : ∃ X, X = (h2.add false [pint 0, .lst true 0 0 [], pint 0, .lst true 0 0 [], pint 0, .lst true 0 0 [], pint 0, .lst true 0 0 []]).set TM [pint (poW (LP.mono 1 0 + LP.mono (-1) (0 + 1))).1, pli (poW (LP.mono 1 0 + LP.mono (-1) (0 + 1))).2, pint (poW (LP.mono 1 1)).1, pli (poW (LP.mono 1 1)).2, pint (poW (LP.mono 1 0)).1, pli (poW (LP.mono 1 0)).2, pint 0, pli []] := ⟨_, rfl⟩
        have hXn : X.next = h2.next + 1 := by rw [hX]; rfl
        have hXb : ∀ t, t ≠ TM → X.blk t = h2.blk t := fun t ht => by rw [hX]; exact (HP.set_other _ _ ht).trans (HP.add_other _ _ _ (by rw [← hTM]; exact ht))
        have hXM : X.blk TM = some [pint (poW (LP.mono 1 0 + LP.mono (-1) (0 + 1))).1, pli (poW (LP.mono 1 0 + LP.mono (-1) (0 + 1))).2, pint (poW (LP.mono 1 1)).1, pli (poW (LP.mono 1 1)).2, pint (poW (LP.mono 1 0)).1, pli (poW (LP.mono 1 0)).2, pint 0, pli []] := by rw [hX]; exact HP.set_same _ _ _
        have hF2n := F2.next
        have hXf : Fr [] h X := by rw [hX]; exact (F2.add _ _).set _ (.inr (by omega))
        rw [← hX]
        clear hX hbM
        have hXR : Rows n n T tk (rowP A n) X := R2.keep (by omega) (fun t _ ht => hXb t (by omega))
        have hXZ : X.blk TZ = some [pint 0, pli []] := (hXb _ (by omega)).trans bZ
        have hXO := (hXb TO (by omega)).trans bO
        refine AW.nil ?_
        refine TQ.nm ?_
        refine CW.seq ?_
        refine CW.midS (fun _ : Unit => True) (fun _ => [(0, pint n), (1, pli w), (5, .ref T 0 1 n), (7, .ptr TZ 0), (8, .ptr TO 0), (39, pli w), (40, pint w.length), (41, pint i), (11, pint m), (12, .ptr TM 0)])
          (fun _ hp => Rows n n T tk (rowP A n) hp ∧ Fr [] h hp ∧ hp.blk TZ = some [pint 0, pli []] ∧ hp.blk TO = some Oc ∧ hp.blk TM = some (mcl x) ∧ hp.next = h2.next + 1) ?_ ?_
        · by_cases hs : x < 0
          · repeat (first | refine S0 ?_ | refine S1 ?_ | refine S2 ?_ | refine S3 ?_ | refine S4 ?_ | refine S5 ?_ | refine S6 ?_ | refine S7 ?_ | refine S8 ?_ | refine S10 ?_ | refine S11 ?_ | refine S13 ?_ | refine S15 ?_ | refine S16 ?_ | refine S19 ?_ | refine S20 ?_ | refine S21 ?_ | refine S22 ?_ | refine S23 ?_ | refine S24 ?_ | refine S25 ?_ | refine S26 ?_ | refine S27 ?_ | refine S33 ?_ | refine S48 ?_ | refine S49 ?_ | refine S66 ?_ | refine S68 ?_ | refine S69 ?_ | refine S72 ?_)
            refine AW.blda (r := [pint 0, pli [], pint (poW (LP.mono 1 0)).1, pli (poW (LP.mono 1 0)).2]) rfl EVx rfl rfl ?_
            repeat (first | refine S0 ?_ | refine S1 ?_ | refine S2 ?_ | refine S3 ?_ | refine S4 ?_ | refine S5 ?_ | refine S6 ?_ | refine S7 ?_ | refine S8 ?_ | refine S10 ?_ | refine S11 ?_ | refine S13 ?_ | refine S15 ?_ | refine S16 ?_ | refine S19 ?_ | refine S20 ?_ | refine S21 ?_ | refine S22 ?_ | refine S23 ?_ | refine S24 ?_ | refine S25 ?_ | refine S26 ?_ | refine S27 ?_ | refine S33 ?_ | refine S48 ?_ | refine S49 ?_ | refine S66 ?_ | refine S68 ?_ | refine S69 ?_ | refine S72 ?_)
            refine Scall (args := [pint 1, pint (-1)]) (termW_s 1 (-1) (by unfold in64; omega) (by omega)) ?_
            repeat (first | refine S0 ?_ | refine S1 ?_ | refine S2 ?_ | refine S3 ?_ | refine S4 ?_ | refine S5 ?_ | refine S6 ?_ | refine S7 ?_ | refine S8 ?_ | refine S10 ?_ | refine S11 ?_ | refine S13 ?_ | refine S15 ?_ | refine S16 ?_ | refine S19 ?_ | refine S20 ?_ | refine S21 ?_ | refine S22 ?_ | refine S23 ?_ | refine S24 ?_ | refine S25 ?_ | refine S26 ?_ | refine S27 ?_ | refine S33 ?_ | refine S48 ?_ | refine S49 ?_ | refine S66 ?_ | refine S68 ?_ | refine S69 ?_ | refine S72 ?_)
            refine Scall (args := [pint (-1), .lst true 1 2 [pint (-1), pint 1]]) (trim_two (-1) (-1) 1 (by omega) (by unfold in64; omega) (by unfold in64; omega)) ?_
            repeat (first | refine S0 ?_ | refine S1 ?_ | refine S2 ?_ | refine S3 ?_ | refine S4 ?_ | refine S5 ?_ | refine S6 ?_ | refine S7 ?_ | refine S8 ?_ | refine S10 ?_ | refine S11 ?_ | refine S13 ?_ | refine S15 ?_ | refine S16 ?_ | refine S19 ?_ | refine S20 ?_ | refine S21 ?_ | refine S22 ?_ | refine S23 ?_ | refine S24 ?_ | refine S25 ?_ | refine S26 ?_ | refine S27 ?_ | refine S33 ?_ | refine S48 ?_ | refine S49 ?_ | refine S66 ?_ | refine S68 ?_ | refine S69 ?_ | refine S72 ?_)
            refine AW.blda (r := [pint (poW (LP.mono 1 (-1))).1, pli (poW (LP.mono 1 (-1))).2, pint (poW (LP.mono (-1) (-1) + LP.mono 1 (-1 + 1))).1, pli (poW (LP.mono (-1) (-1) + LP.mono 1 (-1 + 1))).2]) rfl EVx rfl rfl ?_
            repeat (first | refine S0 ?_ | refine S1 ?_ | refine S2 ?_ | refine S3 ?_ | refine S4 ?_ | refine S5 ?_ | refine S6 ?_ | refine S7 ?_ | refine S8 ?_ | refine S10 ?_ | refine S11 ?_ | refine S13 ?_ | refine S15 ?_ | refine S16 ?_ | refine S19 ?_ | refine S20 ?_ | refine S21 ?_ | refine S22 ?_ | refine S23 ?_ | refine S24 ?_ | refine S25 ?_ | refine S26 ?_ | refine S27 ?_ | refine S33 ?_ | refine S48 ?_ | refine S49 ?_ | refine S66 ?_ | refine S68 ?_ | refine S69 ?_ | refine S72 ?_)
            refine AW.blda (r := [pint 0, pli [], pint (poW (LP.mono 1 0)).1, pli (poW (LP.mono 1 0)).2, pint (poW (LP.mono 1 (-1))).1, pli (poW (LP.mono 1 (-1))).2, pint (poW (LP.mono (-1) (-1) + LP.mono 1 (-1 + 1))).1, pli (poW (LP.mono (-1) (-1) + LP.mono 1 (-1 + 1))).2]) rfl EVx rfl rfl ?_
            repeat (first | refine S0 ?_ | refine S1 ?_ | refine S2 ?_ | refine S3 ?_ | refine S4 ?_ | refine S5 ?_ | refine S6 ?_ | refine S7 ?_ | refine S8 ?_ | refine S10 ?_ | refine S11 ?_ | refine S13 ?_ | refine S15 ?_ | refine S16 ?_ | refine S19 ?_ | refine S20 ?_ | refine S21 ?_ | refine S22 ?_ | refine S23 ?_ | refine S24 ?_ | refine S25 ?_ | refine S26 ?_ | refine S27 ?_ | refine S33 ?_ | refine S48 ?_ | refine S49 ?_ | refine S66 ?_ | refine S68 ?_ | refine S69 ?_ | refine S72 ?_)
            refine ⟨(), trivial, SLx, R2.keep (show h2.next ≤ X.next by omega) (fun t _ ht => (HP.set_other _ _ (by omega)).trans (hXb t (by omega))), hXf.set _ (.inr (by omega)), (HP.set_other _ _ (by omega)).trans hXZ, (HP.set_other _ _ (by omega)).trans (by rw [hOc]; exact hXO), (HP.set_same _ _ _).trans (congrArg some (mcl_neg hs)), hXn⟩
          · repeat (first | refine S0 ?_ | refine S1 ?_ | refine S2 ?_ | refine S3 ?_ | refine S4 ?_ | refine S5 ?_ | refine S6 ?_ | refine S7 ?_ | refine S8 ?_ | refine S10 ?_ | refine S11 ?_ | refine S13 ?_ | refine S15 ?_ | refine S16 ?_ | refine S19 ?_ | refine S20 ?_ | refine S21 ?_ | refine S22 ?_ | refine S23 ?_ | refine S24 ?_ | refine S25 ?_ | refine S26 ?_ | refine S27 ?_ | refine S33 ?_ | refine S48 ?_ | refine S49 ?_ | refine S66 ?_ | refine S68 ?_ | refine S69 ?_ | refine S72 ?_)
            refine ⟨(), trivial, SLx, hXR, hXf, hXZ, by rw [hOc]; exact hXO, hXM.trans (congrArg some (mcl_pos (x := x) (by omega))), hXn⟩
        clear hXR hXf hXZ hXO hXM hXn hXb X
        rintro ⟨⟩ t X _ ⟨hXR, hXf, hXZ, hXO, hXM, hXn⟩
        first | simp only [updS] | simp only [updL, Nat.reduceAdd]
        repeat (first | refine S0 ?_ | refine S1 ?_ | refine S2 ?_ | refine S3 ?_ | refine S4 ?_ | refine S5 ?_ | refine S6 ?_ | refine S7 ?_ | refine S8 ?_ | refine S10 ?_ | refine S11 ?_ | refine S13 ?_ | refine S15 ?_ | refine S16 ?_ | refine S19 ?_ | refine S20 ?_ | refine S21 ?_ | refine S22 ?_ | refine S23 ?_ | refine S24 ?_ | refine S25 ?_ | refine S26 ?_ | refine S27 ?_ | refine S33 ?_ | refine S48 ?_ | refine S49 ?_ | refine S66 ?_ | refine S68 ?_ | refine S69 ?_ | refine S72 ?_)
        refine CW.loopS (fun r : Nat => r ≤ n) (fun r => [(0, pint n), (1, pli w), (5, .ref T 0 1 n), (7, .ptr TZ 0), (8, .ptr TO 0), (39, pli w), (40, pint w.length), (41, pint i), (11, pint m), (12, .ptr TM 0), (65, pint n), (66, pint r)])
          (fun r hp => Rows n n T tk (rowP (colM A x r 0) n) hp ∧ Fr [] h hp ∧ hp.blk TZ = some [pint 0, pli []] ∧ hp.blk TO = some Oc ∧ hp.blk TM = some (mcl x) ∧ h2.next + 1 ≤ hp.next) (fun r => n - r) 0 ⟨Nat.zero_le _, SLx, ?_⟩ ?_
        · refine ⟨?_, hXf, hXZ, hXO, hXM, Nat.le_of_eq hXn.symm⟩
          rw [colM_0]; exact hXR
        clear hXR hXf hXZ hXO hXM hXn X t bZ bO
        rintro r t h3 hr ⟨R3, F3, bZ3, bO3, bM3, n3⟩
        first | simp only [updS] | simp only [updL, Nat.reduceAdd]
        by_cases hr2 : r < n
        · have b3 := R3.out
          refine CW.bump 2 ?_
          repeat (first | refine S0 ?_ | refine S1 ?_ | refine S2 ?_ | refine S3 ?_ | refine S4 ?_ | refine S5 ?_ | refine S6 ?_ | refine S7 ?_ | refine S8 ?_ | refine S10 ?_ | refine S11 ?_ | refine S13 ?_ | refine S15 ?_ | refine S16 ?_ | refine S19 ?_ | refine S20 ?_ | refine S21 ?_ | refine S22 ?_ | refine S23 ?_ | refine S24 ?_ | refine S25 ?_ | refine S26 ?_ | refine S27 ?_ | refine S33 ?_ | refine S48 ?_ | refine S49 ?_ | refine S66 ?_ | refine S68 ?_ | refine S69 ?_ | refine S72 ?_)
          rw [show 0 + (r : Int).toNat * 1 = r by simp]
          refine AW.ldm EVx (by first | exact Or.inl rfl | exact Or.inr ⟨rfl, HP.tok_even _⟩ | exact Or.inr (Or.inl ⟨rfl, HP.tok_even _⟩) | exact Or.inr (Or.inr ⟨rfl, HP.tok_odd _⟩) | exact Or.inr (Or.inl rfl) | exact Or.inr (Or.inr (Or.inl rfl)) | exact Or.inr (Or.inr (Or.inr (Or.inl ⟨rfl, HP.tok_odd _⟩))) | exact Or.inr (Or.inr (Or.inr (Or.inr ⟨rfl, HP.tok_even _⟩))) | exact Or.inr (Or.inr (Or.inr (Or.inr ⟨rfl, by assumption⟩))) | exact Or.inr ⟨rfl, by assumption⟩ | exact Or.inr (Or.inl ⟨rfl, by assumption⟩) | exact Or.inr (Or.inr ⟨rfl, by assumption⟩) | exact Or.inr (Or.inr (Or.inr (Or.inl ⟨rfl, by assumption⟩))) | exact Or.inr (Or.inr (Or.inl ⟨rfl, HP.tok_odd _⟩)) | exact Or.inr (Or.inr (Or.inl ⟨rfl, by assumption⟩)) | exact Or.inr (Or.inr (Or.inr rfl)) | exact Or.inr (Or.inr rfl) | exact Or.inr rfl) rfl ((HP.blk_bump _ _ _).trans b3) (outC_get (k := n) hr2 hr2) ?_
          repeat (first | refine S0 ?_ | refine S1 ?_ | refine S2 ?_ | refine S3 ?_ | refine S4 ?_ | refine S5 ?_ | refine S6 ?_ | refine S7 ?_ | refine S8 ?_ | refine S10 ?_ | refine S11 ?_ | refine S13 ?_ | refine S15 ?_ | refine S16 ?_ | refine S19 ?_ | refine S20 ?_ | refine S21 ?_ | refine S22 ?_ | refine S23 ?_ | refine S24 ?_ | refine S25 ?_ | refine S26 ?_ | refine S27 ?_ | refine S33 ?_ | refine S48 ?_ | refine S49 ?_ | refine S66 ?_ | refine S68 ?_ | refine S69 ?_ | refine S72 ?_)
          have hte := R3.ev r hr2
          have hmn : m < n := by omega
          have hm1 : 1 ≤ m := by omega
          rw [show 0 + ((m : Int) - 1).toNat * 2 = (m - 1) * 2 by omega]
          refine AW.ldma (r := [pint (poW (A r (m - 1))).1, pli (poW (A r (m - 1))).2]) EVx (by first | exact Or.inl rfl | exact Or.inr ⟨rfl, HP.tok_even _⟩ | exact Or.inr (Or.inl ⟨rfl, HP.tok_even _⟩) | exact Or.inr (Or.inr ⟨rfl, HP.tok_odd _⟩) | exact Or.inr (Or.inl rfl) | exact Or.inr (Or.inr (Or.inl rfl)) | exact Or.inr (Or.inr (Or.inr (Or.inl ⟨rfl, HP.tok_odd _⟩))) | exact Or.inr (Or.inr (Or.inr (Or.inr ⟨rfl, HP.tok_even _⟩))) | exact Or.inr (Or.inr (Or.inr (Or.inr ⟨rfl, by assumption⟩))) | exact Or.inr ⟨rfl, by assumption⟩ | exact Or.inr (Or.inl ⟨rfl, by assumption⟩) | exact Or.inr (Or.inr ⟨rfl, by assumption⟩) | exact Or.inr (Or.inr (Or.inr (Or.inl ⟨rfl, by assumption⟩))) | exact Or.inr (Or.inr (Or.inl ⟨rfl, HP.tok_odd _⟩)) | exact Or.inr (Or.inr (Or.inl ⟨rfl, by assumption⟩)) | exact Or.inr (Or.inr (Or.inr rfl)) | exact Or.inr (Or.inr rfl) | exact Or.inr rfl) rfl ((HP.blk_bump _ _ _).trans (R3.row r hr2)) (by rw [pos_length, rowP_len]; omega) ((pos_at (by rw [rowP_len]; omega)).trans (by rw [rowP_get _ (by omega), colM_r])) ?_
          repeat (first | refine S0 ?_ | refine S1 ?_ | refine S2 ?_ | refine S3 ?_ | refine S4 ?_ | refine S5 ?_ | refine S6 ?_ | refine S7 ?_ | refine S8 ?_ | refine S10 ?_ | refine S11 ?_ | refine S13 ?_ | refine S15 ?_ | refine S16 ?_ | refine S19 ?_ | refine S20 ?_ | refine S21 ?_ | refine S22 ?_ | refine S23 ?_ | refine S24 ?_ | refine S25 ?_ | refine S26 ?_ | refine S27 ?_ | refine S33 ?_ | refine S48 ?_ | refine S49 ?_ | refine S66 ?_ | refine S68 ?_ | refine S69 ?_ | refine S72 ?_)
          rw [show 0 + (r : Int).toNat * 1 = r by simp]
          refine AW.ldm EVx (by first | exact Or.inl rfl | exact Or.inr ⟨rfl, HP.tok_even _⟩ | exact Or.inr (Or.inl ⟨rfl, HP.tok_even _⟩) | exact Or.inr (Or.inr ⟨rfl, HP.tok_odd _⟩) | exact Or.inr (Or.inl rfl) | exact Or.inr (Or.inr (Or.inl rfl)) | exact Or.inr (Or.inr (Or.inr (Or.inl ⟨rfl, HP.tok_odd _⟩))) | exact Or.inr (Or.inr (Or.inr (Or.inr ⟨rfl, HP.tok_even _⟩))) | exact Or.inr (Or.inr (Or.inr (Or.inr ⟨rfl, by assumption⟩))) | exact Or.inr ⟨rfl, by assumption⟩ | exact Or.inr (Or.inl ⟨rfl, by assumption⟩) | exact Or.inr (Or.inr ⟨rfl, by assumption⟩) | exact Or.inr (Or.inr (Or.inr (Or.inl ⟨rfl, by assumption⟩))) | exact Or.inr (Or.inr (Or.inl ⟨rfl, HP.tok_odd _⟩)) | exact Or.inr (Or.inr (Or.inl ⟨rfl, by assumption⟩)) | exact Or.inr (Or.inr (Or.inr rfl)) | exact Or.inr (Or.inr rfl) | exact Or.inr rfl) rfl ((HP.blk_bump _ _ _).trans b3) (outC_get (k := n) hr2 hr2) ?_
          repeat (first | refine S0 ?_ | refine S1 ?_ | refine S2 ?_ | refine S3 ?_ | refine S4 ?_ | refine S5 ?_ | refine S6 ?_ | refine S7 ?_ | refine S8 ?_ | refine S10 ?_ | refine S11 ?_ | refine S13 ?_ | refine S15 ?_ | refine S16 ?_ | refine S19 ?_ | refine S20 ?_ | refine S21 ?_ | refine S22 ?_ | refine S23 ?_ | refine S24 ?_ | refine S25 ?_ | refine S26 ?_ | refine S27 ?_ | refine S33 ?_ | refine S48 ?_ | refine S49 ?_ | refine S66 ?_ | refine S68 ?_ | refine S69 ?_ | refine S72 ?_)
          rw [show 0 + (m : Int).toNat * 2 = m * 2 by omega]
          refine AW.ldma (r := [pint (poW (A r m)).1, pli (poW (A r m)).2]) EVx (by first | exact Or.inl rfl | exact Or.inr ⟨rfl, HP.tok_even _⟩ | exact Or.inr (Or.inl ⟨rfl, HP.tok_even _⟩) | exact Or.inr (Or.inr ⟨rfl, HP.tok_odd _⟩) | exact Or.inr (Or.inl rfl) | exact Or.inr (Or.inr (Or.inl rfl)) | exact Or.inr (Or.inr (Or.inr (Or.inl ⟨rfl, HP.tok_odd _⟩))) | exact Or.inr (Or.inr (Or.inr (Or.inr ⟨rfl, HP.tok_even _⟩))) | exact Or.inr (Or.inr (Or.inr (Or.inr ⟨rfl, by assumption⟩))) | exact Or.inr ⟨rfl, by assumption⟩ | exact Or.inr (Or.inl ⟨rfl, by assumption⟩) | exact Or.inr (Or.inr ⟨rfl, by assumption⟩) | exact Or.inr (Or.inr (Or.inr (Or.inl ⟨rfl, by assumption⟩))) | exact Or.inr (Or.inr (Or.inl ⟨rfl, HP.tok_odd _⟩)) | exact Or.inr (Or.inr (Or.inl ⟨rfl, by assumption⟩)) | exact Or.inr (Or.inr (Or.inr rfl)) | exact Or.inr (Or.inr rfl) | exact Or.inr rfl) rfl ((HP.blk_bump _ _ _).trans (R3.row r hr2)) (by rw [pos_length, rowP_len]; omega) ((pos_at (by rw [rowP_len]; omega)).trans (by rw [rowP_get _ (by omega), colM_r])) ?_
          repeat (first | refine S0 ?_ | refine S1 ?_ | refine S2 ?_ | refine S3 ?_ | refine S4 ?_ | refine S5 ?_ | refine S6 ?_ | refine S7 ?_ | refine S8 ?_ | refine S10 ?_ | refine S11 ?_ | refine S13 ?_ | refine S15 ?_ | refine S16 ?_ | refine S19 ?_ | refine S20 ?_ | refine S21 ?_ | refine S22 ?_ | refine S23 ?_ | refine S24 ?_ | refine S25 ?_ | refine S26 ?_ | refine S27 ?_ | refine S33 ?_ | refine S48 ?_ | refine S49 ?_ | refine S66 ?_ | refine S68 ?_ | refine S69 ?_ | refine S72 ?_)
          have hBo : (2 * h3.next + 3) % 2 = 1 := by omega
          refine AW.alloA (2 * h3.next + 1) rfl rfl (by simp only [List.map_cons, List.map_nil, ofConst.ofCell]; first | done | rfl) (show (h3.bump 2).win (2 * h3.next + 1) = true from HP.bump_win h3 (by omega)) ?_
          refine AW.alloA (2 * h3.next + 3) rfl rfl (by simp only [List.map_cons, List.map_nil, ofConst.ofCell]; first | done | rfl) (HP.put_keep (by omega) (show (h3.bump 2).win (2 * h3.next + 3) = true from HP.bump_win h3 (by omega))) ?_
          repeat (first | refine S0 ?_ | refine S1 ?_ | refine S2 ?_ | refine S3 ?_ | refine S4 ?_ | refine S5 ?_ | refine S6 ?_ | refine S7 ?_ | refine S8 ?_ | refine S10 ?_ | refine S11 ?_ | refine S13 ?_ | refine S15 ?_ | refine S16 ?_ | refine S19 ?_ | refine S20 ?_ | refine S21 ?_ | refine S22 ?_ | refine S23 ?_ | refine S24 ?_ | refine S25 ?_ | refine S26 ?_ | refine S27 ?_ | refine S33 ?_ | refine S48 ?_ | refine S49 ?_ | refine S66 ?_ | refine S68 ?_ | refine S69 ?_ | refine S72 ?_)
          obtain ⟨TA, hTA⟩ : ∃ TA, TA = 2 * h3.next + 1 := ⟨_, rfl⟩
          obtain ⟨TB, hTB⟩ : ∃ TB, TB = 2 * h3.next + 3 := ⟨_, rfl⟩
          obtain ⟨X, hX⟩ : ∃ X, X = ((((h3.bump 2).put (2 * h3.next + 1) [.sc (.int .i64 0), .lst true 0 0 []]).put (2 * h3.next + 3) [.sc (.int .i64 0), .lst true 0 0 []]).set (2 * h3.next + 1) [.sc (.int .i64 (poW (A r (m - 1))).1), pli (poW (A r (m - 1))).2]).set (2 * h3.next + 3) [.sc (.int .i64 (poW (A r m)).1), pli (poW (A r m)).2] := ⟨_, rfl⟩
          have hXn : X.next = h3.next + 2 := by rw [hX]; rfl
          have hXA : X.blk TA = some [pint (poW (A r (m - 1))).1, pli (poW (A r (m - 1))).2] := by rw [hX, hTA]; exact (HP.set_other _ _ (by omega)).trans (HP.set_same _ _ _)
          have hXB : X.blk TB = some [pint (poW (A r m)).1, pli (poW (A r m)).2] := by rw [hX, hTB]; exact HP.set_same _ _ _
          have hXb : ∀ t, t ≠ TA → t ≠ TB → X.blk t = h3.blk t := fun t h1 h2 => by
            rw [hX]
            exact (HP.set_other _ _ (by omega)).trans ((HP.set_other _ _ (by omega)).trans ((HP.put_other _ _ (by omega)).trans ((HP.put_other _ _ (by omega)).trans (HP.blk_bump _ _ _))))
          have hF3n := F3.next
          have hXf : Fr [] h X := by rw [hX]; exact ((((F3.bump 2).put _ (.inr (by omega))).put _ (.inr (by omega))).set _ (.inr (by omega))).set _ (.inr (by omega))
          rw [← hX, ← hTA, ← hTB]
          clear hX
          have hXR : Rows n n T tk (rowP (colM A x r 0) n) X := R3.keep (by omega) (fun t ht hlt => hXb t (by omega) (by omega))
          have hXZ := (hXb TZ (by omega) (by omega)).trans bZ3
          have hXO := (hXb TO (by omega) (by omega)).trans bO3
          have hXM := (hXb TM (by omega) (by omega)).trans bM3
          refine CW.loopS (fun c : Nat => c ≤ 2) (fun c => [(0, pint n), (1, pli w), (5, .ref T 0 1 n), (7, .ptr TZ 0), (8, .ptr TO 0), (39, pli w), (40, pint w.length), (41, pint i), (11, pint m), (12, .ptr TM 0), (65, pint n), (66, pint r), (13, pint r), (14, .ptr TA 0), (15, .ptr TB 0), (84, pint c)])
            (fun c hp => Rows n n T tk (rowP (colM A x r c) n) hp ∧ Fr [] h hp ∧ hp.blk TZ = some [pint 0, pli []] ∧ hp.blk TO = some Oc ∧ hp.blk TM = some (mcl x) ∧ hp.blk TA = some [pint (poW (A r (m - 1))).1, pli (poW (A r (m - 1))).2] ∧ hp.blk TB = some [pint (poW (A r m)).1, pli (poW (A r m)).2] ∧ h3.next + 2 ≤ hp.next) (fun c => 2 - c) 0 ⟨Nat.zero_le _, SLx, ?_⟩ ?_
          · exact ⟨hXR, hXf, hXZ, hXO, hXM, hXA, hXB, Nat.le_of_eq hXn.symm⟩
          clear hXR hXf hXZ hXO hXM hXA hXB hXn hXb X t
          rintro c t h4 hc ⟨R4, F4, bZ4, bO4, bM4, bA4, bB4, n4⟩
          first | simp only [updS] | simp only [updL, Nat.reduceAdd]
          by_cases hc2 : c < 2
          · have b4 := R4.out
            repeat (first | refine S0 ?_ | refine S1 ?_ | refine S2 ?_ | refine S3 ?_ | refine S4 ?_ | refine S5 ?_ | refine S6 ?_ | refine S7 ?_ | refine S8 ?_ | refine S10 ?_ | refine S11 ?_ | refine S13 ?_ | refine S15 ?_ | refine S16 ?_ | refine S19 ?_ | refine S20 ?_ | refine S21 ?_ | refine S22 ?_ | refine S23 ?_ | refine S24 ?_ | refine S25 ?_ | refine S26 ?_ | refine S27 ?_ | refine S33 ?_ | refine S48 ?_ | refine S49 ?_ | refine S66 ?_ | refine S68 ?_ | refine S69 ?_ | refine S72 ?_)
            rw [show 0 + (r : Int).toNat * 1 = r by simp]
            refine AW.ldm EVx (by first | exact Or.inl rfl | exact Or.inr ⟨rfl, HP.tok_even _⟩ | exact Or.inr (Or.inl ⟨rfl, HP.tok_even _⟩) | exact Or.inr (Or.inr ⟨rfl, HP.tok_odd _⟩) | exact Or.inr (Or.inl rfl) | exact Or.inr (Or.inr (Or.inl rfl)) | exact Or.inr (Or.inr (Or.inr (Or.inl ⟨rfl, HP.tok_odd _⟩))) | exact Or.inr (Or.inr (Or.inr (Or.inr ⟨rfl, HP.tok_even _⟩))) | exact Or.inr (Or.inr (Or.inr (Or.inr ⟨rfl, by assumption⟩))) | exact Or.inr ⟨rfl, by assumption⟩ | exact Or.inr (Or.inl ⟨rfl, by assumption⟩) | exact Or.inr (Or.inr ⟨rfl, by assumption⟩) | exact Or.inr (Or.inr (Or.inr (Or.inl ⟨rfl, by assumption⟩))) | exact Or.inr (Or.inr (Or.inl ⟨rfl, HP.tok_odd _⟩)) | exact Or.inr (Or.inr (Or.inl ⟨rfl, by assumption⟩)) | exact Or.inr (Or.inr (Or.inr rfl)) | exact Or.inr (Or.inr rfl) | exact Or.inr rfl) rfl b4 (outC_get (k := n) hr2 hr2) ?_
            repeat (first | refine S0 ?_ | refine S1 ?_ | refine S2 ?_ | refine S3 ?_ | refine S4 ?_ | refine S5 ?_ | refine S6 ?_ | refine S7 ?_ | refine S8 ?_ | refine S10 ?_ | refine S11 ?_ | refine S13 ?_ | refine S15 ?_ | refine S16 ?_ | refine S19 ?_ | refine S20 ?_ | refine S21 ?_ | refine S22 ?_ | refine S23 ?_ | refine S24 ?_ | refine S25 ?_ | refine S26 ?_ | refine S27 ?_ | refine S33 ?_ | refine S48 ?_ | refine S49 ?_ | refine S66 ?_ | refine S68 ?_ | refine S69 ?_ | refine S72 ?_)
            refine AW.ixap EVx EVx rfl ⟨by omega, by omega⟩ ?_
            refine AW.ixap EVx EVx rfl ⟨by omega, by omega⟩ ?_
            rw [show 0 + Int.toNat 0 * 4 + (c : Int).toNat * 2 = c * 2 by simp]
            refine AW.ldma (r := [pint (poW (eT x c)).1, pli (poW (eT x c)).2]) EVx (by first | exact Or.inl rfl | exact Or.inr ⟨rfl, HP.tok_even _⟩ | exact Or.inr (Or.inl ⟨rfl, HP.tok_even _⟩) | exact Or.inr (Or.inr ⟨rfl, HP.tok_odd _⟩) | exact Or.inr (Or.inl rfl) | exact Or.inr (Or.inr (Or.inl rfl)) | exact Or.inr (Or.inr (Or.inr (Or.inl ⟨rfl, HP.tok_odd _⟩))) | exact Or.inr (Or.inr (Or.inr (Or.inr ⟨rfl, HP.tok_even _⟩))) | exact Or.inr (Or.inr (Or.inr (Or.inr ⟨rfl, by assumption⟩))) | exact Or.inr ⟨rfl, by assumption⟩ | exact Or.inr (Or.inl ⟨rfl, by assumption⟩) | exact Or.inr (Or.inr ⟨rfl, by assumption⟩) | exact Or.inr (Or.inr (Or.inr (Or.inl ⟨rfl, by assumption⟩))) | exact Or.inr (Or.inr (Or.inl ⟨rfl, HP.tok_odd _⟩)) | exact Or.inr (Or.inr (Or.inl ⟨rfl, by assumption⟩)) | exact Or.inr (Or.inr (Or.inr rfl)) | exact Or.inr (Or.inr rfl) | exact Or.inr rfl) rfl bM4 (by show c * 2 + 2 ≤ 8; omega) (mcl_top x hc2) ?_
            repeat (first | refine S0 ?_ | refine S1 ?_ | refine S2 ?_ | refine S3 ?_ | refine S4 ?_ | refine S5 ?_ | refine S6 ?_ | refine S7 ?_ | refine S8 ?_ | refine S10 ?_ | refine S11 ?_ | refine S13 ?_ | refine S15 ?_ | refine S16 ?_ | refine S19 ?_ | refine S20 ?_ | refine S21 ?_ | refine S22 ?_ | refine S23 ?_ | refine S24 ?_ | refine S25 ?_ | refine S26 ?_ | refine S27 ?_ | refine S33 ?_ | refine S48 ?_ | refine S49 ?_ | refine S66 ?_ | refine S68 ?_ | refine S69 ?_ | refine S72 ?_)
            refine Scall (args := [ppo (poW (A r (m - 1))), ppo (poW (eT x c))]) (timesW_s _ _ ((hsA _ _).mono (by omega)) (hsE _ hc2).1) ?_
            repeat (first | refine S0 ?_ | refine S1 ?_ | refine S2 ?_ | refine S3 ?_ | refine S4 ?_ | refine S5 ?_ | refine S6 ?_ | refine S7 ?_ | refine S8 ?_ | refine S10 ?_ | refine S11 ?_ | refine S13 ?_ | refine S15 ?_ | refine S16 ?_ | refine S19 ?_ | refine S20 ?_ | refine S21 ?_ | refine S22 ?_ | refine S23 ?_ | refine S24 ?_ | refine S25 ?_ | refine S26 ?_ | refine S27 ?_ | refine S33 ?_ | refine S48 ?_ | refine S49 ?_ | refine S66 ?_ | refine S68 ?_ | refine S69 ?_ | refine S72 ?_)
            refine AW.ixap EVx EVx rfl ⟨by omega, by omega⟩ ?_
            refine AW.ixap EVx EVx rfl ⟨by omega, by omega⟩ ?_
            rw [show 0 + Int.toNat 1 * 4 + (c : Int).toNat * 2 = 4 + c * 2 by simp]
            refine AW.ldma (r := [pint (poW (eB x c)).1, pli (poW (eB x c)).2]) EVx (by first | exact Or.inl rfl | exact Or.inr ⟨rfl, HP.tok_even _⟩ | exact Or.inr (Or.inl ⟨rfl, HP.tok_even _⟩) | exact Or.inr (Or.inr ⟨rfl, HP.tok_odd _⟩) | exact Or.inr (Or.inl rfl) | exact Or.inr (Or.inr (Or.inl rfl)) | exact Or.inr (Or.inr (Or.inr (Or.inl ⟨rfl, HP.tok_odd _⟩))) | exact Or.inr (Or.inr (Or.inr (Or.inr ⟨rfl, HP.tok_even _⟩))) | exact Or.inr (Or.inr (Or.inr (Or.inr ⟨rfl, by assumption⟩))) | exact Or.inr ⟨rfl, by assumption⟩ | exact Or.inr (Or.inl ⟨rfl, by assumption⟩) | exact Or.inr (Or.inr ⟨rfl, by assumption⟩) | exact Or.inr (Or.inr (Or.inr (Or.inl ⟨rfl, by assumption⟩))) | exact Or.inr (Or.inr (Or.inl ⟨rfl, HP.tok_odd _⟩)) | exact Or.inr (Or.inr (Or.inl ⟨rfl, by assumption⟩)) | exact Or.inr (Or.inr (Or.inr rfl)) | exact Or.inr (Or.inr rfl) | exact Or.inr rfl) rfl bM4 (by show 4 + c * 2 + 2 ≤ 8; omega) (mcl_bot x hc2) ?_
            repeat (first | refine S0 ?_ | refine S1 ?_ | refine S2 ?_ | refine S3 ?_ | refine S4 ?_ | refine S5 ?_ | refine S6 ?_ | refine S7 ?_ | refine S8 ?_ | refine S10 ?_ | refine S11 ?_ | refine S13 ?_ | refine S15 ?_ | refine S16 ?_ | refine S19 ?_ | refine S20 ?_ | refine S21 ?_ | refine S22 ?_ | refine S23 ?_ | refine S24 ?_ | refine S25 ?_ | refine S26 ?_ | refine S27 ?_ | refine S33 ?_ | refine S48 ?_ | refine S49 ?_ | refine S66 ?_ | refine S68 ?_ | refine S69 ?_ | refine S72 ?_)
            refine Scall (args := [ppo (poW (A r m)), ppo (poW (eB x c))]) (timesW_s _ _ ((hsA _ _).mono (by omega)) (hsE _ hc2).2) ?_
            repeat (first | refine S0 ?_ | refine S1 ?_ | refine S2 ?_ | refine S3 ?_ | refine S4 ?_ | refine S5 ?_ | refine S6 ?_ | refine S7 ?_ | refine S8 ?_ | refine S10 ?_ | refine S11 ?_ | refine S13 ?_ | refine S15 ?_ | refine S16 ?_ | refine S19 ?_ | refine S20 ?_ | refine S21 ?_ | refine S22 ?_ | refine S23 ?_ | refine S24 ?_ | refine S25 ?_ | refine S26 ?_ | refine S27 ?_ | refine S33 ?_ | refine S48 ?_ | refine S49 ?_ | refine S66 ?_ | refine S68 ?_ | refine S69 ?_ | refine S72 ?_)
            refine Scall (args := [ppo (poW (A r (m - 1) * eT x c)), ppo (poW (A r m * eB x c)), pint 1]) (plusW_s _ _ 1 (hsP _ _ _ (hsE _ hc2).1) (hsP _ _ _ (hsE _ hc2).2)) ?_
            rw [LP.smul_one]
            repeat (first | refine S0 ?_ | refine S1 ?_ | refine S2 ?_ | refine S3 ?_ | refine S4 ?_ | refine S5 ?_ | refine S6 ?_ | refine S7 ?_ | refine S8 ?_ | refine S10 ?_ | refine S11 ?_ | refine S13 ?_ | refine S15 ?_ | refine S16 ?_ | refine S19 ?_ | refine S20 ?_ | refine S21 ?_ | refine S22 ?_ | refine S23 ?_ | refine S24 ?_ | refine S25 ?_ | refine S26 ?_ | refine S27 ?_ | refine S33 ?_ | refine S48 ?_ | refine S49 ?_ | refine S66 ?_ | refine S68 ?_ | refine S69 ?_ | refine S72 ?_)
            rw [show 0 + ((m : Int) - 1 + (c : Int)).toNat * 2 = (m - 1 + c) * 2 by omega]
            have hcs := colM_s (n := n) (r := r) A (x := x) (by omega) hc2
            rw [← hm] at hcs
            have hte := R4.ev r hr2
            have hlt := R2.lt r hr2
            refine AW.staR (r := pos (rowP (colM A x r (c + 1)) n r)) EVx (by first | exact Or.inl rfl | exact Or.inr ⟨rfl, HP.tok_even _⟩ | exact Or.inr (Or.inl ⟨rfl, HP.tok_even _⟩) | exact Or.inr (Or.inr ⟨rfl, HP.tok_odd _⟩) | exact Or.inr (Or.inl rfl) | exact Or.inr (Or.inr (Or.inl rfl)) | exact Or.inr (Or.inr (Or.inr (Or.inl ⟨rfl, HP.tok_odd _⟩))) | exact Or.inr (Or.inr (Or.inr (Or.inr ⟨rfl, HP.tok_even _⟩))) | exact Or.inr (Or.inr (Or.inr (Or.inr ⟨rfl, by assumption⟩))) | exact Or.inr ⟨rfl, by assumption⟩ | exact Or.inr (Or.inl ⟨rfl, by assumption⟩) | exact Or.inr (Or.inr ⟨rfl, by assumption⟩) | exact Or.inr (Or.inr (Or.inr (Or.inl ⟨rfl, by assumption⟩))) | exact Or.inr (Or.inr (Or.inl ⟨rfl, HP.tok_odd _⟩)) | exact Or.inr (Or.inr (Or.inl ⟨rfl, by assumption⟩)) | exact Or.inr (Or.inr (Or.inr rfl)) | exact Or.inr (Or.inr rfl) | exact Or.inr rfl) EVx rfl (R4.row r hr2) rfl (by rw [pos_length, rowP_len]; omega) (two_one _) ((pos_set _ (by rw [rowP_len]; omega)).trans (congrArg pos hcs)) ?_
            repeat (first | refine S0 ?_ | refine S1 ?_ | refine S2 ?_ | refine S3 ?_ | refine S4 ?_ | refine S5 ?_ | refine S6 ?_ | refine S7 ?_ | refine S8 ?_ | refine S10 ?_ | refine S11 ?_ | refine S13 ?_ | refine S15 ?_ | refine S16 ?_ | refine S19 ?_ | refine S20 ?_ | refine S21 ?_ | refine S22 ?_ | refine S23 ?_ | refine S24 ?_ | refine S25 ?_ | refine S26 ?_ | refine S27 ?_ | refine S33 ?_ | refine S48 ?_ | refine S49 ?_ | refine S66 ?_ | refine S68 ?_ | refine S69 ?_ | refine S72 ?_)
            refine ⟨c + 1, by omega, SLx, ⟨R4.turn hr2 (fun j _ hj => colM_o A x (c + 1) c hj), F4.set _ (.inr (G r hr2)), (HP.set_other _ _ (by omega)).trans bZ4, (HP.set_other _ _ (by omega)).trans bO4, (HP.set_other _ _ (by omega)).trans bM4, (HP.set_other _ _ (by omega)).trans bA4, (HP.set_other _ _ (by omega)).trans bB4, n4⟩, by omega⟩
          · obtain rfl : c = 2 := by omega
            repeat (first | refine S0 ?_ | refine S1 ?_ | refine S2 ?_ | refine S3 ?_ | refine S4 ?_ | refine S5 ?_ | refine S6 ?_ | refine S7 ?_ | refine S8 ?_ | refine S10 ?_ | refine S11 ?_ | refine S13 ?_ | refine S15 ?_ | refine S16 ?_ | refine S19 ?_ | refine S20 ?_ | refine S21 ?_ | refine S22 ?_ | refine S23 ?_ | refine S24 ?_ | refine S25 ?_ | refine S26 ?_ | refine S27 ?_ | refine S33 ?_ | refine S48 ?_ | refine S49 ?_ | refine S66 ?_ | refine S68 ?_ | refine S69 ?_ | refine S72 ?_)
            refine ⟨r + 1, by omega, SLx, ⟨?_, F4, bZ4, bO4, bM4, show h2.next + 1 ≤ h4.next by omega⟩, by omega⟩
            rw [← colM_2]; exact R4
        · obtain rfl : n = r := by omega
          repeat (first | refine S0 ?_ | refine S1 ?_ | refine S2 ?_ | refine S3 ?_ | refine S4 ?_ | refine S5 ?_ | refine S6 ?_ | refine S7 ?_ | refine S8 ?_ | refine S10 ?_ | refine S11 ?_ | refine S13 ?_ | refine S15 ?_ | refine S16 ?_ | refine S19 ?_ | refine S20 ?_ | refine S21 ?_ | refine S22 ?_ | refine S23 ?_ | refine S24 ?_ | refine S25 ?_ | refine S26 ?_ | refine S27 ?_ | refine S33 ?_ | refine S48 ?_ | refine S49 ?_ | refine S66 ?_ | refine S68 ?_ | refine S69 ?_ | refine S72 ?_)
          refine ⟨i + 1, by omega, SLx, ⟨?_, F3, bZ3, bO3, show TO < 2 * h3.next by omega⟩, by omega⟩
          rw [hA2]
          exact R3.cong (fun j hj => colM_n A x hj)
      · obtain rfl : w.length = i := by omega
        rw [List.take_length] at R2
        repeat (first | refine S0 ?_ | refine S1 ?_ | refine S2 ?_ | refine S3 ?_ | refine S4 ?_ | refine S5 ?_ | refine S6 ?_ | refine S7 ?_ | refine S8 ?_ | refine S10 ?_ | refine S11 ?_ | refine S13 ?_ | refine S15 ?_ | refine S16 ?_ | refine S19 ?_ | refine S20 ?_ | refine S21 ?_ | refine S22 ?_ | refine S23 ?_ | refine S24 ?_ | refine S25 ?_ | refine S26 ?_ | refine S27 ?_ | refine S33 ?_ | refine S48 ?_ | refine S49 ?_ | refine S66 ?_ | refine S68 ?_ | refine S69 ?_ | refine S72 ?_)
        exact ⟨.inr rfl, [.ref T 0 1 n], ⟨[], rfl, rfl⟩, T, tk, rfl, R2, F2⟩
end Go.Proofs.Ytenoiklocdoemaa
