/- Facts and contracts that the claim uses. No condition of its own. -/
import Derived.Test.YtdlpbpfcgjgppaaGJonesStatesBK
import Derived.Test.YtdlpbpfcgjgppaaGJonesStatesAU
import Derived.Test.YtdlpbpfcgjgppaaGJonesStatesBH
import Derived.Test.YtdlpbpfcgjgppaaGJonesStatesAV
set_option linter.unusedVariables false
set_option linter.unusedSimpArgs false
namespace Go.Proofs.Ytdlpbpfcgjgppaa
open Go.RowKit
def ovr {α : Type} (f : Nat → α) (i : Nat) (v : α) : Nat → α := fun j => if j = i then v else f j
theorem ovr_same {α : Type} (f : Nat → α) (i : Nat) (v : α) : ovr f i v i = v := if_pos rfl
theorem ovr_ne {α : Type} (f : Nat → α) {i j : Nat} (v : α) (h : j ≠ i) : ovr f i v j = f j := if_neg h
def outI (N : Nat) (tk : Nat → Nat) (rows : Nat → List Int) (k : Nat) : List PV := (List.range N).map fun j => if j < k then PV.ref (tk j) 0 1 (rows j).length else .lst true 0 0 []
theorem outI_zero (N : Nat) (tk : Nat → Nat) (rows : Nat → List Int) : List.replicate N (PV.lst true 0 0 []) = outI N tk rows 0 := List.ext_getElem (by simp [outI]) (fun j g1 g2 => by simp [outI])
theorem outI_set {N : Nat} {tk : Nat → Nat} {rows : Nat → List Int} {k T : Nat} {r : List Int} (h : k < N) : (outI N tk rows k).set k (.ref T 0 1 r.length) = outI N (ovr tk k T) (ovr rows k r) (k + 1) := by
  apply List.ext_getElem (by simp [outI])
  intro j g1 g2
  rw [List.getElem_set]
  simp only [outI, List.getElem_map, List.getElem_range]
  by_cases e : k = j
  · subst e; rw [if_pos rfl, if_pos (by omega), ovr_same, ovr_same]
  · rw [if_neg e]
    by_cases h2 : j < k
    · rw [if_pos h2, if_pos (by omega), ovr_ne _ _ (fun e2 => e e2.symm), ovr_ne _ _ (fun e2 => e e2.symm)]
    · rw [if_neg h2, if_neg (by omega)]
structure RowsI (N k T : Nat) (tk : Nat → Nat) (rows : Nat → List Int) (h : HP) : Prop where
  out : h.blk T = some (outI N tk rows k)
  row : ∀ j, j < k → h.blk (tk j) = some (ints (rows j))
  inj : ∀ i j, i < k → j < k → tk i = tk j → i = j
  ne : ∀ j, j < k → tk j ≠ T
  ev : ∀ j, j < k → tk j % 2 = 0
  evT : T % 2 = 0
  lt : ∀ j, j < k → tk j < 2 * h.next
  ltT : T < 2 * h.next
theorem RowsI.start {N T : Nat} {rows : Nat → List Int} {h : HP} (hb : h.blk T = some (List.replicate N (PV.lst true 0 0 []))) (he : T % 2 = 0) (hl : T < 2 * h.next) : RowsI N 0 T (fun _ => 0) rows h :=
  ⟨by rw [hb, outI_zero N (fun _ => 0)], fun j hj => absurd hj (Nat.not_lt_zero _), fun _ _ hj => absurd hj (Nat.not_lt_zero _), fun _ hj => absurd hj (Nat.not_lt_zero _), fun _ hj => absurd hj (Nat.not_lt_zero _), he, fun _ hj => absurd hj (Nat.not_lt_zero _), hl⟩
theorem RowsI.keep {N k T : Nat} {tk : Nat → Nat} {rows : Nat → List Int} {h h' : HP} (H : RowsI N k T tk rows h) (hn : h.next ≤ h'.next) (hb : ∀ t, (t = T ∨ ∃ j, j < k ∧ t = tk j) → h'.blk t = h.blk t) : RowsI N k T tk rows h' :=
  ⟨by rw [hb T (.inl rfl)]; exact H.out, fun j hj => by rw [hb _ (.inr ⟨j, hj, rfl⟩)]; exact H.row j hj, H.inj, H.ne, H.ev, H.evT, fun j hj => by have := H.lt j hj; omega, by have := H.ltT; omega⟩
theorem RowsI.fr {N k T : Nat} {tk : Nat → Nat} {rows : Nat → List Int} {h h' : HP} {X : List Nat} (H : RowsI N k T tk rows h) (f : Fr X h h') (h1 : T ∉ X) (h2 : ∀ j, j < k → tk j ∉ X) : RowsI N k T tk rows h' :=
  H.keep f.next (fun t ht => by
    rcases ht with rfl | ⟨j, hj, rfl⟩
    · exact f.blk _ H.ltT h1
    · exact f.blk _ (H.lt j hj) (h2 j hj))
theorem RowsI.turn {N k T : Nat} {tk : Nat → Nat} {rows : Nat → List Int} {h : HP} (H : RowsI N k T tk rows h) {j : Nat} (hj : j < k) {r : List Int} (hr : r.length = (rows j).length) : RowsI N k T tk (ovr rows j r) (h.set (tk j) (ints r)) := by
  refine ⟨?_, fun i hi => ?_, H.inj, H.ne, H.ev, H.evT, H.lt, H.ltT⟩
  · refine (HP.set_other _ _ (fun e => H.ne j hj e.symm)).trans (H.out.trans (congrArg some (List.map_congr_left (fun i hi => ?_))))
    by_cases e : i = j
    · subst e; rw [ovr_same, hr]
    · rw [ovr_ne _ _ e]
  · by_cases e : i = j
    · subst e; rw [ovr_same]; exact HP.set_same _ _ _
    · rw [ovr_ne _ _ e]
      exact (HP.set_other _ _ (fun e2 => e (H.inj i j hi hj e2))).trans (H.row i hi)
theorem RowsI.put {N k k2 N2 i T T2 T' : Nat} {tk : Nat → Nat} {rows : Nat → List Int} {h X : HP} (R : RowsI N k T tk rows h) (hk2 : ∀ j, j < k2 → j ≠ i → j < k) (ev : T' % 2 = 0) (hT' : 2 * h.next ≤ T') (hTn : T' < 2 * X.next) (hX : h.next ≤ X.next) (evT2 : T2 % 2 = 0) (hT2n : T2 < 2 * X.next) (hT2 : T2 ≠ T' ∧ ∀ j, j < k → tk j ≠ T2) {r : List Int} (hXT : X.blk T2 = some (outI N2 (ovr tk i T') (ovr rows i r) k2)) (hXb : ∀ j, j < k → j ≠ i → X.blk (tk j) = h.blk (tk j)) (hXr : X.blk T' = some (ints r)) :
    RowsI N2 k2 T2 (ovr tk i T') (ovr rows i r) X := by
  refine ⟨hXT, fun j hj => ?_, fun a b ha hb e => ?_, fun j hj => ?_, fun j hj => ?_, evT2, fun j hj => ?_, hT2n⟩
  · by_cases e : j = i
    · rw [e, ovr_same, ovr_same]; exact hXr
    · rw [ovr_ne _ _ e, ovr_ne _ _ e, hXb j (hk2 j hj e) e]; exact R.row j (hk2 j hj e)
  · by_cases e1 : a = i
    · by_cases e2 : b = i
      · omega
      · rw [e1, ovr_same, ovr_ne _ _ e2] at e
        have g := R.lt b (hk2 b hb e2)
        omega
    · by_cases e2 : b = i
      · rw [e2, ovr_same, ovr_ne _ _ e1] at e
        have g := R.lt a (hk2 a ha e1)
        omega
      · rw [ovr_ne _ _ e1, ovr_ne _ _ e2] at e
        exact R.inj a b (hk2 a ha e1) (hk2 b hb e2) e
  · by_cases e : j = i
    · rw [e, ovr_same]; exact fun h => hT2.1 h.symm
    · rw [ovr_ne _ _ e]; exact hT2.2 j (hk2 j hj e)
  · by_cases e : j = i
    · rw [e, ovr_same]; exact ev
    · rw [ovr_ne _ _ e]; exact R.ev j (hk2 j hj e)
  · by_cases e : j = i
    · rw [e, ovr_same]; omega
    · rw [ovr_ne _ _ e]; have := R.lt j (hk2 j hj e); omega
theorem RowsI.push {N k T T' : Nat} {tk : Nat → Nat} {rows : Nat → List Int} {h X : HP} (R : RowsI N k T tk rows h) (hk : k < N) (ev : T' % 2 = 0) (hT' : 2 * h.next ≤ T') (hTn : T' < 2 * X.next) (hX : h.next ≤ X.next) {r : List Int} (hXT : X.blk T = some ((outI N tk rows k).set k (.ref T' 0 1 r.length))) (hXb : ∀ j, j < k → X.blk (tk j) = h.blk (tk j)) (hXr : X.blk T' = some (ints r)) :
    RowsI N (k + 1) T (ovr tk k T') (ovr rows k r) X :=
  R.put (fun j hj e => by omega) ev hT' hTn hX R.evT (by have := R.ltT; omega) ⟨by have := R.ltT; omega, R.ne⟩ (by rw [hXT, outI_set hk]) (fun j hj _ => hXb j hj) hXr
structure FzI (N T : Nat) (tk : Nat → Nat) (rows : Nat → List Int) (j : Nat) (h : HP) : Prop where
  out : h.blk T = some ((List.range N).map fun i => if i < j then pli (rows i) else PV.ref (tk i) 0 1 (rows i).length)
  row : ∀ i, j ≤ i → i < N → h.blk (tk i) = some (ints (rows i))
theorem RowsI.fz {N T : Nat} {tk : Nat → Nat} {rows : Nat → List Int} {h : HP} (H : RowsI N N T tk rows h) : FzI N T tk rows 0 h :=
  ⟨by rw [H.out]; refine congrArg some (List.map_congr_left (fun i hi => ?_)); have := List.mem_range.1 hi; rw [if_pos this, if_neg (Nat.not_lt_zero _)], fun i _ hi => H.row i hi⟩
theorem FzI.all {N T : Nat} {tk : Nat → Nat} {rows : Nat → List Int} {h : HP} (H : FzI N T tk rows N h) : h.blk T = some (((List.range N).map rows).map pli) := by
  rw [H.out, List.map_map]
  refine congrArg some (List.map_congr_left (fun i hi => ?_))
  rw [if_pos (List.mem_range.1 hi)]; rfl
end Go.Proofs.Ytdlpbpfcgjgppaa

/- Facts and contracts that the claim uses. No condition of its own. -/
set_option linter.unusedVariables false
set_option linter.unusedSimpArgs false
namespace Go.Proofs.Ytdlpbpfcgjgppaa
open Go.RowKit
set_option maxHeartbeats 2000000 in
set_option maxRecDepth 100000 in
theorem index_some {xs : List Int} {x : Int} (hx : xs.length ≤ 1000000) {m : Nat} (hm : m < xs.length) (h : ∀ k, k < m → xs.getD k 0 ≠ x) (h2 : xs.getD m 0 = x) : SC Try.prog 91 [pli xs, pint x] (pint m) := by
  refine SC.go {} tok mixed Try.func91 rfl rfl Try.ntmps91 rfl rfl (by kernel_rfl) ?_
  first | simp only [updS] | simp only [updL, Nat.reduceAdd]
  repeat (first | refine S0 ?_ | refine S1 ?_ | refine S2 ?_ | refine S4 ?_ | refine S5 ?_ | refine S7 ?_ | refine S8 ?_ | refine S9 ?_ | refine S11 ?_ | refine S12 ?_ | refine S15 ?_ | refine S16 ?_ | refine S19 ?_ | refine S20 ?_ | refine S21 ?_ | refine S22 ?_ | refine S23 ?_ | refine S25 ?_ | refine S26 ?_ | refine S28 ?_)
  refine CW.loopS (fun k : Nat => k ≤ m) (fun k => [(0, pli xs), (1, pint x), (7, pint xs.length), (8, pint k)]) (fun _ _ => True) (fun k => xs.length - k) 0 ⟨by omega, SLx, trivial⟩ ?_
  rintro k t hp hk _
  first | simp only [updS] | simp only [updL, Nat.reduceAdd]
  by_cases hk2 : k < m
  · have hs := h k hk2
    repeat (first | refine S0 ?_ | refine S1 ?_ | refine S2 ?_ | refine S4 ?_ | refine S5 ?_ | refine S7 ?_ | refine S8 ?_ | refine S9 ?_ | refine S11 ?_ | refine S12 ?_ | refine S15 ?_ | refine S16 ?_ | refine S19 ?_ | refine S20 ?_ | refine S21 ?_ | refine S22 ?_ | refine S23 ?_ | refine S25 ?_ | refine S26 ?_ | refine S28 ?_)
    exact ⟨k + 1, by omega, SLx, trivial, by omega⟩
  · obtain rfl : k = m := by omega
    repeat (first | refine S0 ?_ | refine S1 ?_ | refine S2 ?_ | refine S4 ?_ | refine S5 ?_ | refine S7 ?_ | refine S8 ?_ | refine S9 ?_ | refine S11 ?_ | refine S12 ?_ | refine S15 ?_ | refine S16 ?_ | refine S19 ?_ | refine S20 ?_ | refine S21 ?_ | refine S22 ?_ | refine S23 ?_ | refine S25 ?_ | refine S26 ?_ | refine S28 ?_)
    exact ⟨.inr rfl, .cl rfl⟩
end Go.Proofs.Ytdlpbpfcgjgppaa

/- Facts and contracts that the claim uses. No condition of its own. -/
set_option linter.unusedVariables false
set_option linter.unusedSimpArgs false
namespace Go.Proofs.Ytdlpbpfcgjgppaa
open Go.RowKit
def nI (l : List Nat) : List Int := l.map fun (x : Nat) => (x : Int)
theorem nI_len (l : List Nat) : (nI l).length = l.length := by simp [nI]
def gcs (n : Nat) (tk off : Nat → Nat) (g : Lns) : List PV := (List.range n).map fun v => PV.ref (tk v) (off v) 1 (g v).length
theorem gcs_len (n : Nat) (tk off : Nat → Nat) (g : Lns) : (gcs n tk off g).length = n := by simp [gcs]
theorem gcs_get {n : Nat} {tk off : Nat → Nat} {g : Lns} {v : Nat} (h : v < n) : (gcs n tk off g)[v]? = some (.ref (tk v) (off v) 1 (g v).length) := by simp [gcs, h]
theorem gcs_set {n : Nat} {tk off : Nat → Nat} {g : Lns} {v t o : Nat} {l : List Nat} (h : v < n) : (gcs n tk off g).set v (.ref t o 1 l.length) = gcs n (ovr tk v t) (ovr off v o) (ovr g v l) := by
  apply List.ext_getElem (by simp [gcs])
  intro j g1 g2
  rw [List.getElem_set]
  simp only [gcs, List.getElem_map, List.getElem_range]
  by_cases e : v = j
  · subst e; rw [if_pos rfl, ovr_same, ovr_same, ovr_same]
  · rw [if_neg e, ovr_ne _ _ (fun e2 => e e2.symm), ovr_ne _ _ (fun e2 => e e2.symm), ovr_ne _ _ (fun e2 => e e2.symm)]
structure GH (n T : Nat) (tk off : Nat → Nat) (g : Lns) (h : HP) : Prop where
  out : h.blk T = some (gcs n tk off g)
  row : ∀ v, v < n → ∃ pre : List PV, pre.length = off v ∧ h.blk (tk v) = some (pre ++ ints (nI (g v)))
  inj : ∀ i j, i < n → j < n → tk i = tk j → i = j
  ne : ∀ j, j < n → tk j ≠ T
  ev : ∀ j, j < n → tk j % 2 = 0
  evT : T % 2 = 0
  lt : ∀ j, j < n → tk j < 2 * h.next
  ltT : T < 2 * h.next
theorem GH.keep {n T : Nat} {tk off : Nat → Nat} {g : Lns} {h h' : HP} (H : GH n T tk off g h) (hn : h.next ≤ h'.next) (hb : ∀ t, (t = T ∨ ∃ j, j < n ∧ t = tk j) → h'.blk t = h.blk t) : GH n T tk off g h' :=
  ⟨by rw [hb T (.inl rfl)]; exact H.out, fun v hv => by rw [hb _ (.inr ⟨v, hv, rfl⟩)]; exact H.row v hv, H.inj, H.ne, H.ev, H.evT, fun j hj => by have := H.lt j hj; omega, by have := H.ltT; omega⟩
theorem GH.push {n T T' : Nat} {tk off : Nat → Nat} {g : Lns} {h X : HP} {v : Nat} {l : List Nat} (H : GH n T tk off g h) (hv : v < n) (ev : T' % 2 = 0) (hT' : 2 * h.next ≤ T') (hTn : T' < 2 * X.next) (hX : h.next ≤ X.next) (hXT : X.blk T = some ((gcs n tk off g).set v (.ref T' 0 1 l.length))) (hXb : ∀ j, j < n → j ≠ v → X.blk (tk j) = h.blk (tk j)) (hXr : X.blk T' = some (ints (nI l))) :
    GH n T (ovr tk v T') (ovr off v 0) (ovr g v l) X := by
  have lT := H.ltT
  refine ⟨by rw [hXT, gcs_set hv], fun j hj => ?_, fun a b ha hb e => ?_, fun j hj => ?_, fun j hj => ?_, H.evT, fun j hj => ?_, by omega⟩
  · by_cases e : j = v
    · rw [e, ovr_same, ovr_same, ovr_same]; exact ⟨[], rfl, hXr⟩
    · rw [ovr_ne _ _ e, ovr_ne _ _ e, ovr_ne _ _ e, hXb j hj e]; exact H.row j hj
  · by_cases e1 : a = v
    · by_cases e2 : b = v
      · omega
      · rw [e1, ovr_same, ovr_ne _ _ e2] at e
        have := H.lt b hb
        omega
    · by_cases e2 : b = v
      · rw [e2, ovr_same, ovr_ne _ _ e1] at e
        have := H.lt a ha
        omega
      · rw [ovr_ne _ _ e1, ovr_ne _ _ e2] at e
        exact H.inj a b ha hb e
  · by_cases e : j = v
    · rw [e, ovr_same]; omega
    · rw [ovr_ne _ _ e]; exact H.ne j hj
  · by_cases e : j = v
    · rw [e, ovr_same]; exact ev
    · rw [ovr_ne _ _ e]; exact H.ev j hj
  · by_cases e : j = v
    · rw [e, ovr_same]; exact hTn
    · rw [ovr_ne _ _ e]; have := H.lt j hj; omega
theorem GH.turn {n T o : Nat} {tk off : Nat → Nat} {g : Lns} {h X : HP} {v : Nat} {l : List Nat} (H : GH n T tk off g h) (hv : v < n) (hX : X.next = h.next) (hXT : X.blk T = some ((gcs n tk off g).set v (.ref (tk v) o 1 l.length))) (hXb : ∀ j, j < n → j ≠ v → X.blk (tk j) = h.blk (tk j)) (hXr : ∃ pre : List PV, pre.length = o ∧ X.blk (tk v) = some (pre ++ ints (nI l))) :
    GH n T tk (ovr off v o) (ovr g v l) X := by
  have e0 : ovr tk v (tk v) = tk := funext fun j => by
    by_cases e : j = v
    · rw [e, ovr_same]
    · rw [ovr_ne _ _ e]
  refine ⟨by rw [hXT, gcs_set hv, e0], fun j hj => ?_, H.inj, H.ne, H.ev, H.evT, fun j hj => by rw [hX]; exact H.lt j hj, by rw [hX]; exact H.ltT⟩
  by_cases e : j = v
  · rw [e, ovr_same, ovr_same]; exact hXr
  · rw [ovr_ne _ _ e, ovr_ne _ _ e, hXb j hj e]; exact H.row j hj
theorem rowcut {pre : List PV} {o : Nat} {l : List Nat} (hp : pre.length = o) : ((pre ++ ints (nI l)).drop o).take (l.length * 1) = ints (nI l) := by
  subst hp
  rw [List.drop_left, Nat.mul_one, List.take_of_length_le (by rw [ints_length, nI_len]; exact Nat.le_refl _)]
theorem nI_app (l : List Nat) (x : Nat) : ints (nI l) ++ [PV.sc (.int .i64 (x : Int))] = ints (nI (l ++ [x])) := by
  unfold nI ints
  simp
variable {P : Program} {TT : TypeId → TI} {M : Hn} {cl : Oper → Cls} {ops : Array Oper} {l : List Oper} {t : Nat → PV} {h : HP} {K : AS → Prop} {d : Nat} {ty : TypeId} {pos : String} {aft : Array Edge}
theorem AW.callmO {f : FuncId} {xs : Array Operand} {x : Operand} {rs : List Operand} {ats : Array TypeId} {tk off : Nat} {cs : List PV} {zs ys : List Int} {us : List Value} (hx : evA t x = .ref tk off 1 zs.length) (h0 : cl ⟨some d, .call ⟨.value (.func f), xs, ats⟩, ty, pos, aft, none⟩ = .wr ∨ cl ⟨some d, .call ⟨.value (.func f), xs, ats⟩, ty, pos, aft, none⟩ = .wrS ∧ tk % 2 = 0) (hb : h.blk tk = some cs) (hz : (cs.drop off).take zs.length = zs.map (fun z => .sc (.int .i64 z))) (hn : 0 < zs.length) (hr : rs.map (evA t) = us.map .sc) (hs : SCm P f zs us ys)
    (hk : AW P TT M cl ops l ⟨upd t d (.ref tk off 1 ys.length), h.set tk (List.replicate off .junk ++ ys.map fun y => .sc (.int .i64 y))⟩ K) (hxs : xs.toList = x :: rs := by rfl) : AW P TT M cl ops (⟨some d, .call ⟨.value (.func f), xs, ats⟩, ty, pos, aft, none⟩ :: l) ⟨t, h⟩ K :=
  ⟨.inl ⟨_, by
    unfold AX; simp only [GX, DX, callX]; exact .inl ⟨x, rs, tk, off, cs, zs, us, ys, h0, hxs, hx, hb, hz, hn, hr, hs, AX.nil rfl⟩, hk.out⟩⟩
set_option maxHeartbeats 8000000 in
set_option maxRecDepth 100000 in
theorem line_e {n T tf a b : Nat} {tk off : Nat → Nat} {g : Lns} (hn : n ≤ 100) (ha : a < n) (hb : b < n) (hab : a ≠ b) (hla : (g a).length ≤ 100) (hlb : (g b).length ≤ 100) (h : HP) (hv : h.blk tf = some [.ref T 0 1 n]) (H : GH n T tk off g h) (ho : tf % 2 = 1) (hlt : tf < 2 * h.next) :
    SChE Try.prog 74 [.ptr tf 0, pint a, pint b] h (fun _ h' => ∃ tk' off', h'.blk tf = some [.ref T 0 1 n] ∧ GH n T tk' off' (addL g a b) h' ∧ tf < 2 * h'.next) := by
  refine SChE.go { rb := [9, 25] } tok mixed Try.func74 rfl rfl Try.ntmps74 rfl rfl (by kernel_rfl) (fun hw => ?_)
  first | simp only [updS] | simp only [updL, Nat.reduceAdd]
  have step : ∀ {hp : HP} {tk off : Nat → Nat} {g : Lns} {v x : Nat}, GH n T tk off g hp → hp.blk tf = some [.ref T 0 1 n] → tf < 2 * hp.next → v < n →
      ∀ X : HP, X = ((hp.kill (tk v)).add false (ints (nI (g v ++ [x])))).set T ((gcs n tk off g).set v (.ref (2 * hp.next) 0 1 (g v ++ [x]).length)) → GH n T (ovr tk v (2 * hp.next)) (ovr off v 0) (ovr g v (g v ++ [x])) X ∧ X.blk tf = some [.ref T 0 1 n] ∧ tf < 2 * X.next := fun {hp tk off g v x} H hv hlt hvn X hX => by
    subst hX
    have lT := H.ltT
    have evT := H.evT
    have e0 := H.ev v hvn
    have tn : (hp.kill (tk v)).tok false = 2 * hp.next := HP.tokF _
    have ob : ∀ t, t ≠ T → t < 2 * hp.next → t ≠ tk v → (((hp.kill (tk v)).add false (ints (nI (g v ++ [x])))).set T ((gcs n tk off g).set v (.ref (2 * hp.next) 0 1 (g v ++ [x]).length))).blk t = hp.blk t := fun t h1 h2 h3 =>
      (HP.set_other _ _ h1).trans ((HP.add_other _ _ _ (by rw [tn]; omega)).trans (HP.kill_other _ h3))
    refine ⟨H.push hvn (by omega) (Nat.le_refl _) (by show _ < 2 * (hp.next + 1); omega) (by show _ ≤ hp.next + 1; omega) (HP.set_same _ _ _) (fun j hj hne => ob _ (H.ne j hj) (H.lt j hj) (fun e => hne (H.inj j v hj hvn e))) ?_, (ob tf (by omega) hlt (by omega)).trans hv, by show tf < 2 * (hp.next + 1); omega⟩
    refine (HP.set_other _ _ (by omega)).trans ?_
    have := HP.add_same (hp.kill (tk v)) false (ints (nI (g v ++ [x])))
    rwa [tn] at this
  have e2 : ovr (ovr g a (g a ++ [b])) b (ovr g a (g a ++ [b]) b ++ [a]) = addL g a b := funext fun v => by
    unfold addL
    by_cases c1 : v = a
    · subst c1; rw [if_pos rfl, ovr_ne _ _ hab, ovr_same]
    · rw [if_neg c1]
      by_cases c2 : v = b
      · subst c2; rw [if_pos rfl, ovr_same, ovr_ne _ _ c1]
      · rw [if_neg c2, ovr_ne _ _ c2, ovr_ne _ _ c1]
  have b0 := H.out
  have evT := H.evT
  have lT := H.ltT
  have hl := gcs_len n tk off g
  obtain ⟨pre, p1, p2⟩ := H.row a ha
  have hne := H.ne a ha
  have hev := H.ev a ha
  have hta := H.lt a ha
  have hTt : T ≠ tk a := fun e => hne e.symm
  repeat (first | refine S0 ?_ | refine S1 ?_ | refine S3 ?_ | refine S8 ?_ | refine S19 ?_ | refine S27 ?_ | refine S45 ?_ | refine S46 ?_ | refine S49 ?_ | refine S67 ?_)
  rw [show 0 + (a : Int).toNat * 1 = a by simp]
  refine AW.ldm EVx (by first | exact Or.inl rfl | exact Or.inr ⟨rfl, HP.tok_even _⟩ | exact Or.inr (Or.inl ⟨rfl, HP.tok_even _⟩) | exact Or.inr (Or.inr ⟨rfl, HP.tok_odd _⟩) | exact Or.inr (Or.inl rfl) | exact Or.inr (Or.inr (Or.inl rfl)) | exact Or.inr (Or.inr (Or.inr (Or.inl ⟨rfl, HP.tok_odd _⟩))) | exact Or.inr (Or.inr (Or.inr (Or.inr ⟨rfl, HP.tok_even _⟩))) | exact Or.inr (Or.inr (Or.inr (Or.inr ⟨rfl, by assumption⟩))) | exact Or.inr ⟨rfl, by assumption⟩ | exact Or.inr (Or.inl ⟨rfl, by assumption⟩) | exact Or.inr (Or.inr ⟨rfl, by assumption⟩) | exact Or.inr (Or.inr (Or.inr (Or.inl ⟨rfl, by assumption⟩))) | exact Or.inr (Or.inr (Or.inl ⟨rfl, HP.tok_odd _⟩)) | exact Or.inr (Or.inr (Or.inl ⟨rfl, by assumption⟩)) | exact Or.inr (Or.inr (Or.inr rfl)) | exact Or.inr (Or.inr rfl) | exact Or.inr rfl) rfl b0 (gcs_get ha) ?_
  iterate 2 (first | refine S0 ?_ | refine S1 ?_ | refine S3 ?_ | refine S8 ?_ | refine S19 ?_ | refine S27 ?_ | refine S45 ?_ | refine S46 ?_ | refine S49 ?_ | refine S67 ?_)
  refine AW.app (r := ints (nI (g a ++ [b]))) (q := (g a ++ [b]).length) EVx (by first | exact Or.inl rfl | exact Or.inr ⟨rfl, HP.tok_even _⟩ | exact Or.inr (Or.inl ⟨rfl, HP.tok_even _⟩) | exact Or.inr (Or.inr ⟨rfl, HP.tok_odd _⟩) | exact Or.inr (Or.inl rfl) | exact Or.inr (Or.inr (Or.inl rfl)) | exact Or.inr (Or.inr (Or.inr (Or.inl ⟨rfl, HP.tok_odd _⟩))) | exact Or.inr (Or.inr (Or.inr (Or.inr ⟨rfl, HP.tok_even _⟩))) | exact Or.inr (Or.inr (Or.inr (Or.inr ⟨rfl, by assumption⟩))) | exact Or.inr ⟨rfl, by assumption⟩ | exact Or.inr (Or.inl ⟨rfl, by assumption⟩) | exact Or.inr (Or.inr ⟨rfl, by assumption⟩) | exact Or.inr (Or.inr (Or.inr (Or.inl ⟨rfl, by assumption⟩))) | exact Or.inr (Or.inr (Or.inl ⟨rfl, HP.tok_odd _⟩)) | exact Or.inr (Or.inr (Or.inl ⟨rfl, by assumption⟩)) | exact Or.inr (Or.inr (Or.inr rfl)) | exact Or.inr (Or.inr rfl) | exact Or.inr rfl) rfl p2 (by first | exact ⟨rfl, rfl, .inr rfl⟩ | exact ⟨rfl, rfl, .inl rfl⟩ | (simp only [evA, upd, putA, Nat.reduceEqDiff, ↓reduceIte]; first | exact ⟨rfl, rfl, .inr rfl⟩ | exact ⟨rfl, rfl, .inl rfl⟩)) (by rw [List.length_append, ints_length, nI_len]; omega) (by first | exact ints_ones _ | (intro p hp; simp only [List.mem_singleton] at hp; subst hp; rfl) | (intro p hp; simp at hp; subst hp; rfl)) (by first | omega | (simp only [ints_length, bls_length, List.length_map, List.length_append, List.length_set, List.length_cons, List.length_nil, Int.toNat_natCast]; omega)) (by rw [rowcut p1]; exact nI_app _ _) (by simp) ?_
  iterate 1 (first | refine S0 ?_ | refine S1 ?_ | refine S3 ?_ | refine S8 ?_ | refine S19 ?_ | refine S27 ?_ | refine S45 ?_ | refine S46 ?_ | refine S49 ?_ | refine S67 ?_)
  rw [show 0 + (a : Int).toNat * 1 = a by simp, show h.tok false = 2 * h.next from HP.tokF _]
  refine AW.stR (r := (gcs n tk off g).set a (.ref (2 * h.next) 0 1 (g a ++ [b]).length)) EVx (by first | exact Or.inl rfl | exact Or.inr ⟨rfl, HP.tok_even _⟩ | exact Or.inr (Or.inl ⟨rfl, HP.tok_even _⟩) | exact Or.inr (Or.inr ⟨rfl, HP.tok_odd _⟩) | exact Or.inr (Or.inl rfl) | exact Or.inr (Or.inr (Or.inl rfl)) | exact Or.inr (Or.inr (Or.inr (Or.inl ⟨rfl, HP.tok_odd _⟩))) | exact Or.inr (Or.inr (Or.inr (Or.inr ⟨rfl, HP.tok_even _⟩))) | exact Or.inr (Or.inr (Or.inr (Or.inr ⟨rfl, by assumption⟩))) | exact Or.inr ⟨rfl, by assumption⟩ | exact Or.inr (Or.inl ⟨rfl, by assumption⟩) | exact Or.inr (Or.inr ⟨rfl, by assumption⟩) | exact Or.inr (Or.inr (Or.inr (Or.inl ⟨rfl, by assumption⟩))) | exact Or.inr (Or.inr (Or.inl ⟨rfl, HP.tok_odd _⟩)) | exact Or.inr (Or.inr (Or.inl ⟨rfl, by assumption⟩)) | exact Or.inr (Or.inr (Or.inr rfl)) | exact Or.inr (Or.inr rfl) | exact Or.inr rfl) EVx rfl ((HP.add_other _ _ _ (by show _ ≠ 2 * h.next; omega)).trans ((HP.kill_other _ hTt).trans b0)) (by rw [hl]; exact ha) (by first | rfl | (simp only [PV.one, pint, pfr]; done)) rfl ?_
  obtain ⟨H1, hv1, hlt1⟩ := step (x := b) H hv hlt ha _ rfl
  generalize ((h.kill (tk a)).add false (ints (nI (g a ++ [b])))).set T ((gcs n tk off g).set a (.ref (2 * h.next) 0 1 (g a ++ [b]).length)) = X at *
  have hb1 : ovr g a (g a ++ [b]) b = g b := ovr_ne _ _ (fun e => hab e.symm)
  rw [hb1] at e2
  generalize ovr tk a (2 * h.next) = tk1 at *
  generalize ovr off a 0 = off1 at *
  generalize ovr g a (g a ++ [b]) = g1 at *
  clear b0 p1 p2 hne hev hta hTt hl
  have b0 := H1.out
  have lT1 := H1.ltT
  have hl := gcs_len n tk1 off1 g1
  obtain ⟨pre, p1, p2⟩ := H1.row b hb
  have hne := H1.ne b hb
  have hev := H1.ev b hb
  have htb := H1.lt b hb
  have hTt : T ≠ tk1 b := fun e => hne e.symm
  repeat (first | refine S0 ?_ | refine S1 ?_ | refine S3 ?_ | refine S8 ?_ | refine S19 ?_ | refine S27 ?_ | refine S45 ?_ | refine S46 ?_ | refine S49 ?_ | refine S67 ?_)
  rw [show 0 + (b : Int).toNat * 1 = b by simp]
  refine AW.ldm EVx (by first | exact Or.inl rfl | exact Or.inr ⟨rfl, HP.tok_even _⟩ | exact Or.inr (Or.inl ⟨rfl, HP.tok_even _⟩) | exact Or.inr (Or.inr ⟨rfl, HP.tok_odd _⟩) | exact Or.inr (Or.inl rfl) | exact Or.inr (Or.inr (Or.inl rfl)) | exact Or.inr (Or.inr (Or.inr (Or.inl ⟨rfl, HP.tok_odd _⟩))) | exact Or.inr (Or.inr (Or.inr (Or.inr ⟨rfl, HP.tok_even _⟩))) | exact Or.inr (Or.inr (Or.inr (Or.inr ⟨rfl, by assumption⟩))) | exact Or.inr ⟨rfl, by assumption⟩ | exact Or.inr (Or.inl ⟨rfl, by assumption⟩) | exact Or.inr (Or.inr ⟨rfl, by assumption⟩) | exact Or.inr (Or.inr (Or.inr (Or.inl ⟨rfl, by assumption⟩))) | exact Or.inr (Or.inr (Or.inl ⟨rfl, HP.tok_odd _⟩)) | exact Or.inr (Or.inr (Or.inl ⟨rfl, by assumption⟩)) | exact Or.inr (Or.inr (Or.inr rfl)) | exact Or.inr (Or.inr rfl) | exact Or.inr rfl) rfl b0 (gcs_get hb) ?_
  iterate 2 (first | refine S0 ?_ | refine S1 ?_ | refine S3 ?_ | refine S8 ?_ | refine S19 ?_ | refine S27 ?_ | refine S45 ?_ | refine S46 ?_ | refine S49 ?_ | refine S67 ?_)
  rw [hb1] at p2 ⊢
  refine AW.app (r := ints (nI (g b ++ [a]))) (q := (g b ++ [a]).length) EVx (by first | exact Or.inl rfl | exact Or.inr ⟨rfl, HP.tok_even _⟩ | exact Or.inr (Or.inl ⟨rfl, HP.tok_even _⟩) | exact Or.inr (Or.inr ⟨rfl, HP.tok_odd _⟩) | exact Or.inr (Or.inl rfl) | exact Or.inr (Or.inr (Or.inl rfl)) | exact Or.inr (Or.inr (Or.inr (Or.inl ⟨rfl, HP.tok_odd _⟩))) | exact Or.inr (Or.inr (Or.inr (Or.inr ⟨rfl, HP.tok_even _⟩))) | exact Or.inr (Or.inr (Or.inr (Or.inr ⟨rfl, by assumption⟩))) | exact Or.inr ⟨rfl, by assumption⟩ | exact Or.inr (Or.inl ⟨rfl, by assumption⟩) | exact Or.inr (Or.inr ⟨rfl, by assumption⟩) | exact Or.inr (Or.inr (Or.inr (Or.inl ⟨rfl, by assumption⟩))) | exact Or.inr (Or.inr (Or.inl ⟨rfl, HP.tok_odd _⟩)) | exact Or.inr (Or.inr (Or.inl ⟨rfl, by assumption⟩)) | exact Or.inr (Or.inr (Or.inr rfl)) | exact Or.inr (Or.inr rfl) | exact Or.inr rfl) rfl p2 (by first | exact ⟨rfl, rfl, .inr rfl⟩ | exact ⟨rfl, rfl, .inl rfl⟩ | (simp only [evA, upd, putA, Nat.reduceEqDiff, ↓reduceIte]; first | exact ⟨rfl, rfl, .inr rfl⟩ | exact ⟨rfl, rfl, .inl rfl⟩)) (by rw [List.length_append, ints_length, nI_len]; omega) (by first | exact ints_ones _ | (intro p hp; simp only [List.mem_singleton] at hp; subst hp; rfl) | (intro p hp; simp at hp; subst hp; rfl)) (by first | omega | (simp only [ints_length, bls_length, List.length_map, List.length_append, List.length_set, List.length_cons, List.length_nil, Int.toNat_natCast]; omega)) (by rw [rowcut p1]; exact nI_app _ _) (by simp) ?_
  iterate 1 (first | refine S0 ?_ | refine S1 ?_ | refine S3 ?_ | refine S8 ?_ | refine S19 ?_ | refine S27 ?_ | refine S45 ?_ | refine S46 ?_ | refine S49 ?_ | refine S67 ?_)
  rw [show 0 + (b : Int).toNat * 1 = b by simp, show X.tok false = 2 * X.next from HP.tokF _]
  refine AW.stR (r := (gcs n tk1 off1 g1).set b (.ref (2 * X.next) 0 1 (g b ++ [a]).length)) EVx (by first | exact Or.inl rfl | exact Or.inr ⟨rfl, HP.tok_even _⟩ | exact Or.inr (Or.inl ⟨rfl, HP.tok_even _⟩) | exact Or.inr (Or.inr ⟨rfl, HP.tok_odd _⟩) | exact Or.inr (Or.inl rfl) | exact Or.inr (Or.inr (Or.inl rfl)) | exact Or.inr (Or.inr (Or.inr (Or.inl ⟨rfl, HP.tok_odd _⟩))) | exact Or.inr (Or.inr (Or.inr (Or.inr ⟨rfl, HP.tok_even _⟩))) | exact Or.inr (Or.inr (Or.inr (Or.inr ⟨rfl, by assumption⟩))) | exact Or.inr ⟨rfl, by assumption⟩ | exact Or.inr (Or.inl ⟨rfl, by assumption⟩) | exact Or.inr (Or.inr ⟨rfl, by assumption⟩) | exact Or.inr (Or.inr (Or.inr (Or.inl ⟨rfl, by assumption⟩))) | exact Or.inr (Or.inr (Or.inl ⟨rfl, HP.tok_odd _⟩)) | exact Or.inr (Or.inr (Or.inl ⟨rfl, by assumption⟩)) | exact Or.inr (Or.inr (Or.inr rfl)) | exact Or.inr (Or.inr rfl) | exact Or.inr rfl) EVx rfl ((HP.add_other _ _ _ (by show _ ≠ 2 * X.next; omega)).trans ((HP.kill_other _ hTt).trans b0)) (by rw [hl]; exact hb) (by first | rfl | (simp only [PV.one, pint, pfr]; done)) rfl ?_
  obtain ⟨H2, hv2, hlt2⟩ := step (x := a) H1 hv1 hlt1 hb _ rfl
  rw [hb1] at H2 hv2 hlt2
  rw [e2] at H2
  repeat (first | refine S0 ?_ | refine S1 ?_ | refine S3 ?_ | refine S8 ?_ | refine S19 ?_ | refine S27 ?_ | refine S45 ?_ | refine S46 ?_ | refine S49 ?_ | refine S67 ?_)
  exact ⟨.inl rfl, _, rfl, _, _, hv2, H2, hlt2⟩
end Go.Proofs.Ytdlpbpfcgjgppaa
