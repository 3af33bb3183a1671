/- Steps with numbers that wrap, in regions that keep the order of their text; what a slot holds read anew. Nothing of the program is here. -/
import Derived.Test.YtpmdhkiolgpiaaaGMatchingProductsBA
import Derived.Test.YtpmdhkiolgpiaaaGMatchingProductsAZ
set_option linter.unusedVariables false
set_option linter.unusedSimpArgs false
namespace Go.Proofs.Ytpmdhkiolgpiaaa
open Go.RowKit
variable {P : Program} {T : TypeId → TI} {M : Hn} {cl : Oper → Cls} {ops : Array Oper} {l : List Oper} {t : Nat → PV} {h : HP} {K : AS → Prop} {d : Nat} {ty : TypeId} {pos : String} {aft : Array Edge} {n : Nat} {Q : Exit → AS → Prop}

end Go.Proofs.Ytpmdhkiolgpiaaa

/- Calls of function values that turn the caller's heap; regions that draw their order and end in such a call. Nothing of the program is here. -/
set_option linter.unusedVariables false
set_option linter.unusedSimpArgs false
namespace Go.Proofs.Ytpmdhkiolgpiaaa
open Go.RowKit

theorem OpE.callv {P : Program} {o : Oper} {s : AS} {K : PV → HP → Prop} {f : FuncId} {cap : List PV} {y : Operand} {xs : Array Operand} {ats : Array TypeId} (ho : o.op = .call ⟨.value y, xs, ats⟩) (hy : evA s.tmps y = .clo f cap) (hs : SChE P f (xs.toList.map (evA s.tmps) ++ cap) s.hp K) : OpE P o s K := by
  intro w0 Z0 ρ w a Kw Q H he hK
  have e1 := he y
  rw [hy] at e1
  obtain ⟨vs, e2, q1, q2⟩ := e1.clo_inv
  obtain ⟨hl, hv⟩ := map_args (ρ := ρ) (w := w) (rfl : xs.toList.map (evA s.tmps) = _) a.eval (Zof Z0 ρ s.hp) (fun x _ => he x)
  have hall : ∀ i, i < (xs.toList.map (evA s.tmps) ++ cap).length → V ρ (Zof Z0 ρ s.hp) w ((xs.toList.map (evA s.tmps) ++ cap).getD i .junk) ((xs.map a.eval ++ vs).getD i undef) := fun i hi => by
    by_cases c1 : i < xs.size
    · have := hv i (by simpa using c1)
      have e3 : (xs.toList.map (evA s.tmps) ++ cap).getD i .junk = (xs.toList.map (evA s.tmps)).getD i .junk := by simp [List.getD, List.getElem?_append_left (show i < (xs.toList.map (evA s.tmps)).length by simpa using c1)]
      have e4 : (xs.map a.eval ++ vs).getD i undef = (xs.map a.eval).getD i undef := by simp [Array.getElem?_append_left (show i < (xs.map a.eval).size by simpa using c1)]
      rw [e3, e4]; exact this
    · have := q2 (i - xs.size) (by simp at hi; omega)
      have e3 : (xs.toList.map (evA s.tmps) ++ cap).getD i .junk = cap.getD (i - xs.size) .junk := by simp [List.getD, List.getElem?_append_right (show (xs.toList.map (evA s.tmps)).length ≤ i by simpa using Nat.le_of_not_lt c1)]
      have e4 : (xs.map a.eval ++ vs).getD i undef = vs.getD (i - xs.size) undef := by simp [Array.getElem?_append_right (show (xs.map a.eval).size ≤ i by simpa using Nat.le_of_not_lt c1)]
      rw [e3, e4]; exact this
  obtain ⟨fn, k1, k2, k3⟩ := hs.1
  have k2' : fn.name ≠ "runtime.NumGoroutine" := by simpa using k2
  have k3' : fn.body ≠ none := by intro e; simp [e] at k3
  have hrun : (execOp a.eval o).run P w = .ok (.enter f (xs.map a.eval ++ vs)) w := by
    simp [execOp, ho, resolve, Deferred.ofValue, e2, invoke, callFunc, k1, k2', k3']
  unfold Oper.wp
  rw [hrun]
  refine (hs.2 w0 Z0 ρ w _ H (by simp [q1]) hall).mono ?_
  rintro _ w' ⟨u, ρ', r, h', rfl, hQ', H', hv', up⟩
  exact hK r h' u w' ρ' hQ' H' hv' up
section
variable {P : Program} {T : TypeId → TI} {M : Hn} {t : Nat → PV} {h : HP} {cl : Oper → Cls} {ops : Array Oper} {l : List Oper} {K : AS → Prop} {d : Nat} {ty : TypeId} {pos : String} {aft : Array Edge}
end

/-! ### a region that draws its order, the last operation apart -/
/-- what the last operation does -/
structure LW (P : Program) (T : TypeId → TI) (n : Nat) (x : Oper) (s : AS) (K : AS → Prop) : Prop where
  out : TOk P T → ∀ E w0 Z0 ρ a w (Kw : Act → World → Prop) (Q : Exit → Act → World → Prop), Rel E w0 Z0 ρ n s a w → (∀ ρ' s' a' w', Rel E w0 Z0 ρ' n s' a' w' → K s' → Kw a' w') → x.wp P a w Kw Q
theorem LW.ope {P : Program} {T : TypeId → TI} {n d : Nat} {x : Oper} {s : AS} {K : AS → Prop} (hd : x.dst = some d) (hn : d < n) (h : TOk P T → OpE P x s (fun v h' => K ⟨upd s.tmps d v, h'⟩)) : LW P T n x s K :=
  ⟨fun hT E w0 Z0 ρ a w Kw Q R hK => h hT w0 Z0 ρ w a _ _ R.heap (fun y => R.ev y) (fun v h' u w' ρ' hQ' H' hv' up => by
    have R' := R.put (d := x.dst) H' up (fun y hy => by rw [hd] at hy; cases hy; exact hn) hv'
    rw [hd] at R' ⊢
    exact hK ρ' _ _ w' R' hQ')⟩
/-- a slice of one's own is written no more -/
theorem LW.freeze {P : Program} {T : TypeId → TI} {n : Nat} {x : Oper} {t : Nat → PV} {h : HP} {K : AS → Prop} (d : Nat) {tk : Nat} {xs : List Int} (hd : t d = .ref tk 0 1 xs.length) (hb : h.blk tk = some (ints xs)) (hk : LW P T n x ⟨upd t d (pli xs), h.kill tk⟩ K) : LW P T n x ⟨t, h⟩ K := by
  refine ⟨fun hT E w0 Z0 ρ a w Kw Q R hK => ?_⟩
  have R' := R.freeze (d := d) hd hb (by simp)
  rw [show PV.lst false 1 xs.length (((ints xs).drop 0).take (xs.length * 1)) = pli xs by simp [ints_take, pli]] at R'
  exact hk.out hT E w0 Z0 ρ a w Kw Q R' hK

variable {P : Program} {E : PV → Value → Prop} {w0 : World} {Z0 : Nat → Prop} {n : Nat} {cl : Oper → Cls} {ops : Array Oper} {Q : Exit → Act → World → Prop}
/-- every operation ahead of the last one is bound ahead of it -/
def lastOk (ops : Array Oper) (m : Nat) : Bool := Nat.beq ops.size (m + 1) && (List.range m).all (fun j => anc ops ops.size m j)
end Go.Proofs.Ytpmdhkiolgpiaaa

/- Rows of ints in blocks of their own. Nothing of the program is here. -/
set_option linter.unusedVariables false
set_option linter.unusedSimpArgs false
namespace Go.Proofs.Ytpmdhkiolgpiaaa
open Go.RowKit

/-- one value is turned -/
def ovr {α : Type} (f : Nat → α) (i : Nat) (v : α) : Nat → α := fun j => if j = i then v else f j
theorem ovr_same {α : Type} (f : Nat → α) (i : Nat) (v : α) : ovr f i v i = v := if_pos rfl
theorem ovr_ne {α : Type} (f : Nat → α) {i j : Nat} (v : α) (h : j ≠ i) : ovr f i v j = f j := if_neg h
/-- the outer slice: of N rows k are there -/
def outI (N : Nat) (tk : Nat → Nat) (rows : Nat → List Int) (k : Nat) : List PV := (List.range N).map fun j => if j < k then PV.ref (tk j) 0 1 (rows j).length else .lst true 0 0 []
theorem outI_zero (N : Nat) (tk : Nat → Nat) (rows : Nat → List Int) : List.replicate N (PV.lst true 0 0 []) = outI N tk rows 0 := List.ext_getElem (by simp [outI]) (fun j g1 g2 => by simp [outI])
theorem outI_set {N : Nat} {tk : Nat → Nat} {rows : Nat → List Int} {k T : Nat} {r : List Int} (h : k < N) : (outI N tk rows k).set k (.ref T 0 1 r.length) = outI N (ovr tk k T) (ovr rows k r) (k + 1) := by
  apply List.ext_getElem (by simp [outI])
  intro j g1 g2
  rw [List.getElem_set]
  simp only [outI, List.getElem_map, List.getElem_range]
  by_cases e : k = j
  · subst e; rw [if_pos rfl, if_pos (by omega), ovr_same, ovr_same]
  · rw [if_neg e]
    by_cases h2 : j < k
    · rw [if_pos h2, if_pos (by omega), ovr_ne _ _ (fun e2 => e e2.symm), ovr_ne _ _ (fun e2 => e e2.symm)]
    · rw [if_neg h2, if_neg (by omega)]
/-- k rows lie in blocks of their own -/
structure RowsI (N k T : Nat) (tk : Nat → Nat) (rows : Nat → List Int) (h : HP) : Prop where
  out : h.blk T = some (outI N tk rows k)
  row : ∀ j, j < k → h.blk (tk j) = some (ints (rows j))
  inj : ∀ i j, i < k → j < k → tk i = tk j → i = j
  ne : ∀ j, j < k → tk j ≠ T
  ev : ∀ j, j < k → tk j % 2 = 0
  evT : T % 2 = 0
  lt : ∀ j, j < k → tk j < 2 * h.next
  ltT : T < 2 * h.next
theorem RowsI.start {N T : Nat} {rows : Nat → List Int} {h : HP} (hb : h.blk T = some (List.replicate N (PV.lst true 0 0 []))) (he : T % 2 = 0) (hl : T < 2 * h.next) : RowsI N 0 T (fun _ => 0) rows h :=
  ⟨by rw [hb, outI_zero N (fun _ => 0)], fun j hj => absurd hj (Nat.not_lt_zero _), fun _ _ hj => absurd hj (Nat.not_lt_zero _), fun _ hj => absurd hj (Nat.not_lt_zero _), fun _ hj => absurd hj (Nat.not_lt_zero _), he, fun _ hj => absurd hj (Nat.not_lt_zero _), hl⟩
/-- what is not touched stays -/
theorem RowsI.keep {N k T : Nat} {tk : Nat → Nat} {rows : Nat → List Int} {h h' : HP} (H : RowsI N k T tk rows h) (hn : h.next ≤ h'.next) (hb : ∀ t, (t = T ∨ ∃ j, j < k ∧ t = tk j) → h'.blk t = h.blk t) : RowsI N k T tk rows h' :=
  ⟨by rw [hb T (.inl rfl)]; exact H.out, fun j hj => by rw [hb _ (.inr ⟨j, hj, rfl⟩)]; exact H.row j hj, H.inj, H.ne, H.ev, H.evT, fun j hj => by have := H.lt j hj; omega, by have := H.ltT; omega⟩
theorem RowsI.fr {N k T : Nat} {tk : Nat → Nat} {rows : Nat → List Int} {h h' : HP} {X : List Nat} (H : RowsI N k T tk rows h) (f : Fr X h h') (h1 : T ∉ X) (h2 : ∀ j, j < k → tk j ∉ X) : RowsI N k T tk rows h' :=
  H.keep f.next (fun t ht => by
    rcases ht with rfl | ⟨j, hj, rfl⟩
    · exact f.blk _ H.ltT h1
    · exact f.blk _ (H.lt j hj) (h2 j hj))
/-- one row is turned in its place -/
theorem RowsI.turn {N k T : Nat} {tk : Nat → Nat} {rows : Nat → List Int} {h : HP} (H : RowsI N k T tk rows h) {j : Nat} (hj : j < k) {r : List Int} (hr : r.length = (rows j).length) : RowsI N k T tk (ovr rows j r) (h.set (tk j) (ints r)) := by
  refine ⟨?_, fun i hi => ?_, H.inj, H.ne, H.ev, H.evT, H.lt, H.ltT⟩
  · refine (HP.set_other _ _ (fun e => H.ne j hj e.symm)).trans (H.out.trans (congrArg some (List.map_congr_left (fun i hi => ?_))))
    by_cases e : i = j
    · subst e; rw [ovr_same, hr]
    · rw [ovr_ne _ _ e]
  · by_cases e : i = j
    · subst e; rw [ovr_same]; exact HP.set_same _ _ _
    · rw [ovr_ne _ _ e]
      exact (HP.set_other _ _ (fun e2 => e (H.inj i j hi hj e2))).trans (H.row i hi)
/-- a row at a new block: the i-th one -/
theorem RowsI.put {N k k2 N2 i T T2 T' : Nat} {tk : Nat → Nat} {rows : Nat → List Int} {h X : HP} (R : RowsI N k T tk rows h) (hk2 : ∀ j, j < k2 → j ≠ i → j < k) (ev : T' % 2 = 0) (hT' : 2 * h.next ≤ T') (hTn : T' < 2 * X.next) (hX : h.next ≤ X.next) (evT2 : T2 % 2 = 0) (hT2n : T2 < 2 * X.next) (hT2 : T2 ≠ T' ∧ ∀ j, j < k → tk j ≠ T2) {r : List Int} (hXT : X.blk T2 = some (outI N2 (ovr tk i T') (ovr rows i r) k2)) (hXb : ∀ j, j < k → j ≠ i → X.blk (tk j) = h.blk (tk j)) (hXr : X.blk T' = some (ints r)) :
    RowsI N2 k2 T2 (ovr tk i T') (ovr rows i r) X := by
  refine ⟨hXT, fun j hj => ?_, fun a b ha hb e => ?_, fun j hj => ?_, fun j hj => ?_, evT2, fun j hj => ?_, hT2n⟩
  · by_cases e : j = i
    · rw [e, ovr_same, ovr_same]; exact hXr
    · rw [ovr_ne _ _ e, ovr_ne _ _ e, hXb j (hk2 j hj e) e]; exact R.row j (hk2 j hj e)
  · by_cases e1 : a = i
    · by_cases e2 : b = i
      · omega
      · rw [e1, ovr_same, ovr_ne _ _ e2] at e
        have g := R.lt b (hk2 b hb e2)
        omega
    · by_cases e2 : b = i
      · rw [e2, ovr_same, ovr_ne _ _ e1] at e
        have g := R.lt a (hk2 a ha e1)
        omega
      · rw [ovr_ne _ _ e1, ovr_ne _ _ e2] at e
        exact R.inj a b (hk2 a ha e1) (hk2 b hb e2) e
  · by_cases e : j = i
    · rw [e, ovr_same]; exact fun h => hT2.1 h.symm
    · rw [ovr_ne _ _ e]; exact hT2.2 j (hk2 j hj e)
  · by_cases e : j = i
    · rw [e, ovr_same]; exact ev
    · rw [ovr_ne _ _ e]; exact R.ev j (hk2 j hj e)
  · by_cases e : j = i
    · rw [e, ovr_same]; omega
    · rw [ovr_ne _ _ e]; have := R.lt j (hk2 j hj e); omega
/-- one more row, at a new block -/
theorem RowsI.push {N k T T' : Nat} {tk : Nat → Nat} {rows : Nat → List Int} {h X : HP} (R : RowsI N k T tk rows h) (hk : k < N) (ev : T' % 2 = 0) (hT' : 2 * h.next ≤ T') (hTn : T' < 2 * X.next) (hX : h.next ≤ X.next) {r : List Int} (hXT : X.blk T = some ((outI N tk rows k).set k (.ref T' 0 1 r.length))) (hXb : ∀ j, j < k → X.blk (tk j) = h.blk (tk j)) (hXr : X.blk T' = some (ints r)) :
    RowsI N (k + 1) T (ovr tk k T') (ovr rows k r) X :=
  R.put (fun j hj e => by omega) ev hT' hTn hX R.evT (by have := R.ltT; omega) ⟨by have := R.ltT; omega, R.ne⟩ (by rw [hXT, outI_set hk]) (fun j hj _ => hXb j hj) hXr
/-- some rows are written no more -/
structure FzI (N T : Nat) (tk : Nat → Nat) (rows : Nat → List Int) (j : Nat) (h : HP) : Prop where
  out : h.blk T = some ((List.range N).map fun i => if i < j then pli (rows i) else PV.ref (tk i) 0 1 (rows i).length)
  row : ∀ i, j ≤ i → i < N → h.blk (tk i) = some (ints (rows i))
theorem RowsI.fz {N T : Nat} {tk : Nat → Nat} {rows : Nat → List Int} {h : HP} (H : RowsI N N T tk rows h) : FzI N T tk rows 0 h :=
  ⟨by rw [H.out]; refine congrArg some (List.map_congr_left (fun i hi => ?_)); have := List.mem_range.1 hi; rw [if_pos this, if_neg (Nat.not_lt_zero _)], fun i _ hi => H.row i hi⟩
theorem FzI.all {N T : Nat} {tk : Nat → Nat} {rows : Nat → List Int} {h : HP} (H : FzI N T tk rows N h) : h.blk T = some (((List.range N).map rows).map pli) := by
  rw [H.out, List.map_map]
  refine congrArg some (List.map_congr_left (fun i hi => ?_))
  rw [if_pos (List.mem_range.1 hi)]; rfl
end Go.Proofs.Ytpmdhkiolgpiaaa
