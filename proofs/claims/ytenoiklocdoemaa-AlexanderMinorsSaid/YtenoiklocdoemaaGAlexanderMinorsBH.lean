/- Calls of function values that turn the caller's heap; regions that draw their order and end in such a call. Nothing of the program is here. -/
import Derived.Test.YtenoiklocdoemaaGAlexanderMinorsBA
set_option linter.unusedVariables false
set_option linter.unusedSimpArgs false
namespace Go.Proofs.Ytenoiklocdoemaa
open Go.RowKit

theorem OpE.callv {P : Program} {o : Oper} {s : AS} {K : PV → HP → Prop} {f : FuncId} {cap : List PV} {y : Operand} {xs : Array Operand} {ats : Array TypeId} (ho : o.op = .call ⟨.value y, xs, ats⟩) (hy : evA s.tmps y = .clo f cap) (hs : SChE P f (xs.toList.map (evA s.tmps) ++ cap) s.hp K) : OpE P o s K := by
  intro w0 Z0 ρ w a Kw Q H he hK
  have e1 := he y
  rw [hy] at e1
  obtain ⟨vs, e2, q1, q2⟩ := e1.clo_inv
  obtain ⟨hl, hv⟩ := map_args (ρ := ρ) (w := w) (rfl : xs.toList.map (evA s.tmps) = _) a.eval (Zof Z0 ρ s.hp) (fun x _ => he x)
  have hall : ∀ i, i < (xs.toList.map (evA s.tmps) ++ cap).length → V ρ (Zof Z0 ρ s.hp) w ((xs.toList.map (evA s.tmps) ++ cap).getD i .junk) ((xs.map a.eval ++ vs).getD i undef) := fun i hi => by
    by_cases c1 : i < xs.size
    · have := hv i (by simpa using c1)
      have e3 : (xs.toList.map (evA s.tmps) ++ cap).getD i .junk = (xs.toList.map (evA s.tmps)).getD i .junk := by simp [List.getD, List.getElem?_append_left (show i < (xs.toList.map (evA s.tmps)).length by simpa using c1)]
      have e4 : (xs.map a.eval ++ vs).getD i undef = (xs.map a.eval).getD i undef := by simp [Array.getElem?_append_left (show i < (xs.map a.eval).size by simpa using c1)]
      rw [e3, e4]; exact this
    · have := q2 (i - xs.size) (by simp at hi; omega)
      have e3 : (xs.toList.map (evA s.tmps) ++ cap).getD i .junk = cap.getD (i - xs.size) .junk := by simp [List.getD, List.getElem?_append_right (show (xs.toList.map (evA s.tmps)).length ≤ i by simpa using Nat.le_of_not_lt c1)]
      have e4 : (xs.map a.eval ++ vs).getD i undef = vs.getD (i - xs.size) undef := by simp [Array.getElem?_append_right (show (xs.map a.eval).size ≤ i by simpa using Nat.le_of_not_lt c1)]
      rw [e3, e4]; exact this
  obtain ⟨fn, k1, k2, k3⟩ := hs.1
  have k2' : fn.name ≠ "runtime.NumGoroutine" := by simpa using k2
  have k3' : fn.body ≠ none := by intro e; simp [e] at k3
  have hrun : (execOp a.eval o).run P w = .ok (.enter f (xs.map a.eval ++ vs)) w := by
    simp [execOp, ho, resolve, Deferred.ofValue, e2, invoke, callFunc, k1, k2', k3']
  unfold Oper.wp
  rw [hrun]
  refine (hs.2 w0 Z0 ρ w _ H (by simp [q1]) hall).mono ?_
  rintro _ w' ⟨u, ρ', r, h', rfl, hQ', H', hv', up⟩
  exact hK r h' u w' ρ' hQ' H' hv' up
/-- an argument that reads in another way, too -/
theorem SChE.arg0 {P : Program} {f : FuncId} {a b : PV} {l : List PV} {h : HP} {Q : PV → HP → Prop} (hab : ∀ {ρ Z w v}, V ρ Z w a v → V ρ Z w b v) (hs : SChE P f (b :: l) h Q) : SChE P f (a :: l) h Q := by
  refine ⟨hs.1, fun w0 Z0 ρ w vs H hsz hv => hs.2 w0 Z0 ρ w vs H hsz (fun i hi => ?_)⟩
  cases i with
  | zero => exact hab (hv 0 (by simp))
  | succ i => exact hv (i + 1) hi
theorem V.nil_pli {ρ : Pl} {Z : Nat → Prop} {w : World} {v : Value} (h : V ρ Z w (.lst true 0 0 []) v) : V ρ Z w (pli []) v := by
  cases h with
  | lst _ _ n cap cs A u hn hc hm hl ha hv => exact .lst false 1 0 cap [] A u hn (fun e => by cases e) hm rfl (fun e => absurd rfl e) (fun i hi => by simp at hi)
section
variable {P : Program} {T : TypeId → TI} {M : Hn} {t : Nat → PV} {h : HP} {cl : Oper → Cls} {ops : Array Oper} {l : List Oper} {K : AS → Prop} {d : Nat} {ty : TypeId} {pos : String} {aft : Array Edge}
/-- a call of a function value that turns the heap -/
theorem AW.callve {y : Operand} {f : FuncId} {cap : List PV} {xs : Array Operand} {ats : Array TypeId} {args : List PV} {Q0 : PV → HP → Prop} (hy : evA t y = .clo f cap) (ha : xs.toList.map (evA t) ++ cap = args) (h0 : cl = (fun _ => Cls.wr)) (hs : SChE P f args h Q0) (hk : ∀ r h', Q0 r h' → AW P T M cl ops l ⟨upd t d r, h'⟩ K) :
    AW P T M cl ops (⟨some d, .call ⟨.value y, xs, ats⟩, ty, pos, aft, none⟩ :: l) ⟨t, h⟩ K :=
  ⟨.inr ⟨h0, .inl rfl, (fun _ hh => by cases hh), fun _ => .callv rfl hy (by subst ha; exact hs.mono (fun r h' hq => (hk r h' hq).out))⟩⟩
/-- a variable with a function in it, written no more -/
theorem AW.boxc {tt : TypeId} {x : Operand} {f : FuncId} {cap : List PV} (hm : inL M.mt (some d) = false) (hx : evA t x = .clo f cap) (hk : AW P T M cl ops l ⟨upd t d (.lptr [.clo f cap]), h⟩ K) : AW P T M cl ops (⟨some d, .box tt x, ty, pos, aft, none⟩ :: l) ⟨t, h⟩ K :=
  ⟨.inl ⟨_, (by unfold AX; simp only [GX, DX, boxX, hx]; exact ⟨rfl, (fun hh => by rw [hm] at hh; (cases hh)), (fun _ => AX.nil rfl)⟩), hk.out⟩⟩
end

/-! ### a region that draws its order, the last operation apart -/
/-- what the last operation does -/
structure LW (P : Program) (T : TypeId → TI) (n : Nat) (x : Oper) (s : AS) (K : AS → Prop) : Prop where
  out : TOk P T → ∀ E w0 Z0 ρ a w (Kw : Act → World → Prop) (Q : Exit → Act → World → Prop), Rel E w0 Z0 ρ n s a w → (∀ ρ' s' a' w', Rel E w0 Z0 ρ' n s' a' w' → K s' → Kw a' w') → x.wp P a w Kw Q
theorem LW.ope {P : Program} {T : TypeId → TI} {n d : Nat} {x : Oper} {s : AS} {K : AS → Prop} (hd : x.dst = some d) (hn : d < n) (h : TOk P T → OpE P x s (fun v h' => K ⟨upd s.tmps d v, h'⟩)) : LW P T n x s K :=
  ⟨fun hT E w0 Z0 ρ a w Kw Q R hK => h hT w0 Z0 ρ w a _ _ R.heap (fun y => R.ev y) (fun v h' u w' ρ' hQ' H' hv' up => by
    have R' := R.put (d := x.dst) H' up (fun y hy => by rw [hd] at hy; cases hy; exact hn) hv'
    rw [hd] at R' ⊢
    exact hK ρ' _ _ w' R' hQ')⟩
/-- a slice of one's own is written no more -/
theorem LW.freeze {P : Program} {T : TypeId → TI} {n : Nat} {x : Oper} {t : Nat → PV} {h : HP} {K : AS → Prop} (d : Nat) {tk : Nat} {xs : List Int} (hd : t d = .ref tk 0 1 xs.length) (hb : h.blk tk = some (ints xs)) (hk : LW P T n x ⟨upd t d (pli xs), h.kill tk⟩ K) : LW P T n x ⟨t, h⟩ K := by
  refine ⟨fun hT E w0 Z0 ρ a w Kw Q R hK => ?_⟩
  have R' := R.freeze (d := d) hd hb (by simp)
  rw [show PV.lst false 1 xs.length (((ints xs).drop 0).take (xs.length * 1)) = pli xs by simp [ints_take, pli]] at R'
  exact hk.out hT E w0 Z0 ρ a w Kw Q R' hK

variable {P : Program} {E : PV → Value → Prop} {w0 : World} {Z0 : Nat → Prop} {n : Nat} {cl : Oper → Cls} {ops : Array Oper} {Q : Exit → Act → World → Prop}
theorem AR.anyL {F : Fence} (hF : OkF F) {fm m : Nat} (hchk : chkDraw cl ops = true) (hm : ops.size = m + 1) (hanc : ∀ j, j < m → anc ops ops.size m j = true) {x : Oper} (hx : ops[m]? = some x) (hg : x.guard = none) (hnd : ∀ c, x.op ≠ .defer c) (Kx : AS → Prop)
    (hlast : ∀ ρ s a w, Rel E w0 Z0 ρ n s a w → Kx s → ∀ Kw : Act → World → Prop, (∀ a w, Q .normal a w → Kw a w) → x.wp P a w Kw Q) : ∀ (fuel : Nat) (listed : Array Bool) (rem : List Nat) (ρ : Pl) (s : AS) (a : Act) (w : World),
    rem = (List.range m).filter (fun i => !listed.getD i true) → listed.size = ops.size → listed.getD m true = false → Closed ops listed → rem.length + 1 ≤ fuel → AR P n cl ops (rem.map (fun i => ops.getD i default)) s Kx → Rel E w0 Z0 ρ n s a w →
    wpAnyIn F fm P .any ops Q fuel listed a w := by
  have chk : ∀ i (hi : i < ops.size), (∀ e ∈ ops[i].after.toList, Region.binds .any e = true → e.on < i) ∧ ∀ j (hj : j < i), anc ops ops.size i j = true ∨ ((ops[j]'(by omega)).apart ops ops[i] = true ∧ clsOk (cl (ops[j]'(by omega))) (cl ops[i]) = true) := by
    intro i hi
    have := List.all_eq_true.1 hchk i (by simpa using hi)
    simp only [Array.getElem?_eq_getElem hi, Bool.and_eq_true] at this
    obtain ⟨h1, h2⟩ := this
    refine ⟨fun e he hb => ?_, fun j hj => ?_⟩
    · rw [Array.all_eq_true'] at h1
      have := h1 e (by simpa using he)
      simpa [hb] using this
    · have := List.all_eq_true.1 h2 j (by simpa using hj)
      simpa [Array.getElem?_eq_getElem (show j < ops.size by omega)] using this
  have memrem : ∀ {listed : Array Bool} {i : Nat}, i ∈ (List.range m).filter (fun i => !listed.getD i true) ↔ i < m ∧ listed.getD i true = false := by
    intro listed i; simp
  have memready : ∀ {listed : Array Bool} {i : Nat}, i ∈ Region.ready .any ops listed → i < ops.size ∧ listed.getD i true = false ∧ ∀ o, ops[i]? = some o → ∀ e ∈ o.after.toList, Region.binds .any e = true → listed.getD e.on false = true := by
    intro listed i hi
    unfold Region.ready at hi
    obtain ⟨h1, h2⟩ := List.mem_filter.1 hi
    have h1' : i < ops.size := by simpa using h1
    simp only [Bool.and_eq_true, Bool.not_eq_true', Array.getElem?_eq_getElem h1', Option.map_some, Option.getD_some] at h2
    refine ⟨h1', h2.1, fun o ho e he hb => ?_⟩
    rw [Array.getElem?_eq_getElem h1'] at ho
    cases ho
    have := (Array.all_eq_true'.1 h2.2) e (by simpa using he)
    simpa [hb] using this
  have mkready : ∀ {listed : Array Bool} {i : Nat} (hi : i < ops.size), listed.size = ops.size → listed.getD i true = false → (∀ k, k < i → listed.getD k true = true) → i ∈ Region.ready .any ops listed := by
    intro listed i hi hsz hl hall
    unfold Region.ready
    refine List.mem_filter.2 ⟨by simpa using hi, ?_⟩
    simp only [hl, Bool.not_false, Array.getElem?_eq_getElem hi, Option.map_some, Option.getD_some, Bool.true_and]
    rw [Array.all_eq_true']
    intro e he
    cases hb : Region.binds .any e with
    | false => simp
    | true =>
      have hlt := (chk i hi).1 e (by simpa using he) hb
      have := hall e.on hlt
      rw [getD_tf (by omega)] at this
      simp [this]
  intro fuel
  induction fuel with
  | zero => intro listed rem ρ s a w hrem hsz hlm hcl hlen; omega
  | succ fuel ih =>
    intro listed rem ρ s a w hrem hsz hlm hcl hlen hA R
    have hpw : rem.Pairwise (· < ·) := by rw [hrem]; exact List.Pairwise.filter _ List.pairwise_lt_range
    refine ⟨fun hnil => ?_, fun i hi => ?_⟩
    · exfalso
      cases hr : rem with
      | nil =>
        have := mkready (listed := listed) (i := m) (by omega) hsz hlm (fun k hk => by
          cases hx : listed.getD k true with
          | true => rfl
          | false => have : k ∈ rem := by rw [hrem]; exact memrem.2 ⟨hk, hx⟩
                     rw [hr] at this; cases this)
        rw [hnil] at this; cases this
      | cons i rest =>
        have him : i ∈ rem := by rw [hr]; simp
        have hi2 := memrem.1 (hrem ▸ him)
        have := mkready (listed := listed) (i := i) (by omega) hsz hi2.2 (fun k hk => by
          cases hx : listed.getD k true with
          | true => rfl
          | false =>
            have hkr : k ∈ rem := by rw [hrem]; exact memrem.2 ⟨by omega, hx⟩
            rw [hr] at hkr hpw
            rcases List.mem_cons.1 hkr with h | h
            · omega
            · have := (List.pairwise_cons.1 hpw).1 _ h; omega)
        rw [hnil] at this; cases this
    · obtain ⟨h1, h2, h3⟩ := memready hi
      by_cases him : i = m
      · subst him
        have hr0 : rem = [] := by
          rw [List.eq_nil_iff_forall_not_mem]
          intro j hj
          have hj2 := memrem.1 (hrem ▸ hj)
          have := anc_listed hcl j ops.size i h3 (hanc j hj2.1)
          rw [getD_tf (by omega)] at hj2
          rw [this] at hj2
          cases hj2.2
        rw [hr0] at hA
        unfold wpOpIn
        simp only [hx]
        rw [if_pos (by simp only [Region.wanted, hg])]
        refine op_in hF hnd (hlast ρ s a w R hA _ (fun a w hq => wpAnyIn_done ?_ hq _))
        rw [List.eq_nil_iff_forall_not_mem]
        intro k hk
        obtain ⟨k1, k2, _⟩ := memready hk
        by_cases c : k = i
        · subst c
          simp [Array.getD, hsz, h1] at k2
        · have e : (listed.setIfInBounds i true).getD k true = listed.getD k true := by
            simp [Array.getElem?_setIfInBounds_ne (show i ≠ k from fun h => c h.symm)]
          rw [e] at k2
          have : k ∈ rem := by rw [hrem]; exact memrem.2 ⟨by omega, k2⟩
          rw [hr0] at this; cases this
      have him2 : i ∈ rem := by rw [hrem]; exact memrem.2 ⟨by omega, h2⟩
      obtain ⟨l1, l2, hsplit⟩ := List.append_of_mem him2
      rw [hsplit] at hpw
      obtain ⟨p1, p2, p3⟩ := List.pairwise_append.1 hpw
      have hlt1 : ∀ j ∈ l1, j < i := fun j hj => p3 j hj i (by simp)
      have hlt2 : ∀ j ∈ l2, i < j := fun j hj => (List.pairwise_cons.1 p2).1 j hj
      rw [hsplit, List.map_append, List.map_cons] at hA
      have hoi : ops.getD i default = ops[i] := by simp [Array.getD, h1]
      have hA2 := AR.front (l1.map fun i => ops.getD i default) (l2.map fun i => ops.getD i default) s (fun _ t ht => (R.heap.wfree t ht).1) (fun oj hoj => by
        obtain ⟨j, hj, rfl⟩ := List.mem_map.1 hoj
        have hjlt := hlt1 j hj
        have hoj' : ops.getD j default = ops[j]'(by omega) := by simp [Array.getD, show j < ops.size by omega]
        rw [hoi, hoj']
        rcases (chk i h1).2 j hjlt with hanc | hok
        · exfalso
          have hjl := anc_listed hcl j ops.size i h3 hanc
          have hjr : j ∈ rem := by rw [hsplit]; simp [hj]
          have := (memrem.1 (hrem ▸ hjr)).2
          rw [getD_tf (by omega), hjl] at this
          cases this
        · exact hok) hA
      obtain ⟨s1, k1, k2⟩ := hA2
      rw [← List.map_append] at k2
      have hset : ∀ k, k ≠ i → ∀ b, (listed.setIfInBounds i true).getD k b = listed.getD k b := fun k c b => by
        simp [Array.getElem?_setIfInBounds_ne (show i ≠ k from fun h => c h.symm)]
      have hnew : l1 ++ l2 = (List.range m).filter (fun k => !(listed.setIfInBounds i true).getD k true) := by
        have e1 : ∀ k ∈ List.range m, (!(listed.setIfInBounds i true).getD k true) = ((!listed.getD k true) && decide (k ≠ i)) := by
          intro k hk
          by_cases c : k = i
          · subst c
            simp [Array.getD, hsz, h1]
          · rw [hset k c]
            simp [c]
        rw [List.filter_congr e1]
        rw [show (fun k => (!listed.getD k true) && decide (k ≠ i)) = (fun k => decide (k ≠ i) && (!listed.getD k true)) from funext fun k => Bool.and_comm _ _]
        rw [← List.filter_filter, ← hrem, hsplit, List.filter_append, List.filter_cons_of_neg (by simp)]
        rw [List.filter_eq_self.2 (fun j hj => by have := hlt1 j hj; simp; omega), List.filter_eq_self.2 (fun j hj => by have := hlt2 j hj; simp; omega)]
      have hclosed : Closed ops (listed.setIfInBounds i true) := by
        have mono : ∀ k, listed.getD k false = true → (listed.setIfInBounds i true).getD k false = true := fun k hk => by
          by_cases c : k = i
          · subst c
            simp [Array.getD, hsz, h1]
          · rw [hset k c]; exact hk
        intro k o ho hk e he hb
        by_cases c : k = i
        · subst c
          exact mono _ (h3 o ho e he hb)
        · rw [hset k c] at hk
          exact mono _ (hcl k o ho hk e he hb)
      unfold wpOpIn
      simp only [Array.getElem?_eq_getElem h1]
      rw [hoi] at k1
      exact k1.soundIn hF (Q := Q) (K := wpAnyIn F fm P .any ops Q fuel (listed.setIfInBounds i true)) R (fun ρ' a' w' R' =>
        ih _ (l1 ++ l2) ρ' s1 a' w' hnew (by simp [hsz]) (by rw [hset m (fun e => him e.symm)]; exact hlm) hclosed (by rw [hsplit] at hlen; simp at hlen ⊢; omega) k2 R')
/-- every operation ahead of the last one is bound ahead of it -/
def lastOk (ops : Array Oper) (m : Nat) : Bool := Nat.beq ops.size (m + 1) && (List.range m).all (fun j => anc ops ops.size m j)
theorem CW.regionDL {T : TypeId → TI} {M : Hn} {id : Nat} {o : List Oper} {s : AS} {Q : Exit → AS → Prop} (m : Nat) (hl : lastOk o.toArray m = true) {x : Oper} (hx : o[m]? = some x) (hg : x.guard = none) (hnd : ∀ c, x.op ≠ .defer c) (hk : AW P T M (clsOf M) o.toArray (o.take m) s (fun s' => LW P T n x s' (Q .normal))) : CW P T M n (.region id o.toArray true) s Q := by
  refine ⟨fun h1 h2 h3 => ?_⟩
  simp only [codeOk, Bool.and_eq_true, Bool.or_eq_true, Bool.not_eq_true'] at h3
  simp only [lastOk, Bool.and_eq_true, List.all_eq_true] at hl
  have hsz : o.toArray.size = m + 1 := Nat.eq_of_beq_eq_true hl.1
  have hol : o.length = m + 1 := by simpa using hsz
  intro E w0 Z0 ρ a w R F hF fm
  have hd : dstOk n (o.take m) = true := by
    have := h3.1
    simp only [dstOk, List.all_eq_true] at this ⊢
    exact fun y hy => this y (by simpa using List.mem_of_mem_take hy)
  have hAR := AD_sound h1 (fun hc => by have := congrFun hc ⟨none, .load 0 (.const undef), 0, "", #[], none⟩; simp [clsOf, inL] at this) (o.take m) s hd hk.out
  refine wpIn_region_any h2 (AR.anyL hF (h3.2.resolve_left (by simp)) hsz (fun j hj => hl.2 j (by simpa using hj)) (x := x) (by simpa using hx) hg hnd (fun s' => LW P T n x s' (Q .normal)) ?_ o.toArray.size (Array.replicate o.toArray.size false) (List.range m) ρ s a _ ?_ (by simp) ?_ ?_ (by simp [hol]) ?_ (drew_rel R))
  · intro ρ s a w R' hk' Kw hKw
    exact hk'.out h1 E w0 Z0 ρ a w Kw _ R' (fun ρ' s' a' w' R'' hq => hKw _ _ ⟨ρ', s', R'', hq⟩)
  · rw [List.filter_eq_self.2]
    intro i hi
    have : i < o.length := by have := List.mem_range.1 hi; omega
    simp [Array.getD, this]
  · simp [Array.getD, show m < o.length by omega]
  · intro i y ho hl
    exfalso
    have : i < o.length := by
      apply Classical.byContradiction; intro hc'
      rw [Array.getElem?_eq_none (by simp; omega)] at ho; cases ho
    simp [Array.getD, this] at hl
  · have e : (List.range m).map (fun i => o.toArray.getD i default) = o.take m := by
      apply List.ext_getElem
      · simp; omega
      · intro i h1 h2
        have : i < m := by simpa using h1
        simp [Array.getD, show i < o.length by omega]
    rw [e]; exact hAR
end Go.Proofs.Ytenoiklocdoemaa
