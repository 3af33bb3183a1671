/- More of the reading: what the cells of a block of one's own hold may be read otherwise; a map in a variable is written no more. Nothing of the program is here. -/
import Derived.Test.YthacglggkgmbhaaGGroupOrbitsAS
set_option linter.unusedVariables false
set_option linter.unusedSimpArgs false
namespace Go.Proofs.Ythacglggkgmbhaa
open Go.RowKit

variable {P : Program} {T : TypeId → TI} {M : Hn} {n : Nat} {t : Nat → PV} {h : HP} {Q : Exit → AS → Prop}
/-- the cells of a block read otherwise: whatever they hold reads so, too -/
theorem HRel.recell {w0 : World} {Z0 : Nat → Prop} {ρ : Pl} {w : World} (H : HRel w0 Z0 ρ h w) {tk : Nat} {cs r : List PV} (ht : h.blk tk = some cs) (hl : r.length = cs.length)
    (hv : ∀ i u, i < cs.length → V ρ (Zof Z0 ρ h) w (cs.getD i .junk) u → V ρ (Zof Z0 ρ h) w (r.getD i .junk) u) :
    HRel w0 Z0 ρ (h.set tk r) w ∧ ∀ pv u, V ρ (Zof Z0 ρ h) w pv u → V ρ (Zof Z0 ρ (h.set tk r)) w pv u := by
  have hZ : ∀ k, Zof Z0 ρ (h.set tk r) k → Zof Z0 ρ h k := by
    rintro k (hk | ⟨x, c, o', h1, h2⟩ | hk)
    · exact .inl hk
    · by_cases e : x = tk
      · subst e; exact .inr (.inl ⟨x, cs, o', ht, h2⟩)
      · rw [HP.set_other _ _ e] at h1; exact .inr (.inl ⟨x, c, o', h1, h2⟩)
    · exact .inr (.inr hk)
  have up : ∀ pv u, V ρ (Zof Z0 ρ h) w pv u → V ρ (Zof Z0 ρ (h.set tk r)) w pv u := fun pv u hV => hV.ext (Ext.refl _ _) (fun k _ hk => hZ k hk) (fun _ _ h => h)
  have back : ∀ x c, (h.set tk r).blk x = some c → ∃ c', h.blk x = some c' := fun x c hc => by
    by_cases e : x = tk
    · subst e; exact ⟨cs, ht⟩
    · rw [HP.set_other _ _ e] at hc; exact ⟨c, hc⟩
  refine ⟨⟨H.below, H.z0, fun x c h1 => ?_, fun x x' c c' k o1 o2 h1 h2 r1 r2 => ?_, fun x hx => ?_, fun x c h1 => ?_, H.sinj, fun x hw => ?_⟩, up⟩
  · by_cases e : x = tk
    · subst e
      rw [HP.set_same] at h1; cases h1
      rcases H.live x cs ht with ⟨hn, hn2⟩ | ⟨b2, o2, a2, T2, g1, g2, g3, g4, g5⟩
      · exact .inl ⟨List.eq_nil_of_length_eq_zero (by rw [hl, hn]; rfl), hn2⟩
      · exact .inr ⟨b2, o2, a2, T2, g1, g2, g3, by rw [hl]; exact g4, fun i hi => up _ _ (hv i _ (by rw [← hl]; exact hi) (g5 i (by rw [← hl]; exact hi)))⟩
    · rw [HP.set_other _ _ e] at h1
      rcases H.live x c h1 with hn | ⟨b2, o2, a2, T2, g1, g2, g3, g4, g5⟩
      · exact .inl hn
      · exact .inr ⟨b2, o2, a2, T2, g1, g2, g3, g4, fun i hi => up _ _ (g5 i hi)⟩
  · obtain ⟨d1, k1⟩ := back x c h1
    obtain ⟨d2, k2⟩ := back x' c' h2
    exact H.inj x x' d1 d2 k o1 o2 k1 k2 r1 r2
  · have := H.free x hx
    have e : x ≠ tk := fun e => by rw [e, ht] at this; cases this.1
    exact ⟨by rw [HP.set_other _ _ e]; exact this.1, this.2⟩
  · obtain ⟨b, obj, g1, g2, g3, g4⟩ := H.slive x c h1
    exact ⟨b, obj, g1, g2, g3, g4.ext (Ext.refl _ _) (fun k _ hz' => hZ k hz') (fun _ _ h => h)⟩
  · obtain ⟨q1, q2, q3⟩ := H.wfree x hw
    exact ⟨by rw [HP.set_other _ _ (fun e => by rw [e, ht] at q1; cases q1)]; exact q1, q2, q3⟩
/-- what a slice of one's own becomes when it is written no more -/
theorem HRel.thaw {w0 : World} {Z0 : Nat → Prop} {ρ : Pl} {w : World} (H : HRel w0 Z0 ρ h w) {tk off sz m : Nat} {cs : List PV} (hb : h.blk tk = some cs) (hl : off + m * sz ≤ cs.length) {Z : Nat → Prop} {u : Value} (hv : V ρ Z w (.ref tk off sz m) u) :
    V ρ (Zof Z0 ρ (h.kill tk)) w (.lst false sz m ((cs.drop off).take (m * sz))) u := by
  obtain ⟨H', up⟩ := H.kill tk
  obtain ⟨cap, A, rfl, g2, g3, g4⟩ := hv.ref_inv
  have hlen : ((cs.drop off).take (m * sz)).length = m * sz := by simp; omega
  by_cases hcap : cap = 0
  · have hn0 : m = 0 := by omega
    subst hn0
    exact .lst _ _ _ cap _ _ (fun _ => undef) g2 (fun hh => by cases hh) g3 (by simp) (fun hne => absurd (by simp) hne) (fun i hi => by simp at hi)
  · obtain ⟨b, k, arr, T, r1, rfl, r3, r4⟩ := g4 hcap
    rcases H.live tk cs hb with ⟨_, k1⟩ | ⟨b', o', arr', T', k1, k2, k3, k4, k5⟩
    · rw [r1] at k1; cases k1
    rw [r1] at k1; cases k1
    rw [r3] at k3; cases k3
    refine .lst _ _ _ cap _ _ (fun i => arr.getD (k + (off + i)) undef) g2 (fun hh => by cases hh) g3 hlen (fun hne => ⟨b, k + off, rfl, fun hz => ?_, lt_of_heap r3, fun i hi => ?_⟩) (fun i hi => ?_)
    · rcases hz with hz | ⟨t', c', o', h1, h2⟩ | ⟨t', c', h1, h2⟩
      · have := H.z0 b hz; omega
      · obtain ⟨n1, n2⟩ := HP.kill_some h1
        exact n1 (H.inj t' tk c' cs b o' k n2 hb h2 r1)
      · exact H.apart' h1 h2 hb r1
    · rw [Nat.add_assoc]; exact cell_live r3 (by omega)
    · rw [hlen] at hi
      have e : ((cs.drop off).take (m * sz)).getD i .junk = cs.getD (off + i) .junk := by simp [List.getD, List.getElem?_take, hi, List.getElem?_drop]
      rw [e]
      exact up _ _ (k5 (off + i) (by omega))
theorem set_getD_same {cs : List PV} {i : Nat} {v : PV} (h : i < cs.length) : (cs.set i v).getD i .junk = v := by simp [List.getD, h]
theorem set_getD_other {cs : List PV} {i j : Nat} {v : PV} (h : i ≠ j) : (cs.set i v).getD j .junk = cs.getD j .junk := by simp [List.getD, List.getElem?_set, h]
/-- a slice of one's own that lies in a cell is written no more -/
theorem CW.freezeC {c : Code} (v i : Nat) {tk off sz m : Nat} {cs ds : List PV} (hb : h.blk v = some cs) (hi : cs[i]? = some (.ref tk off sz m)) (ht : h.blk tk = some ds) (hl : off + m * sz ≤ ds.length) (hne : v ≠ tk) {r : PV} (hr : PV.lst false sz m ((ds.drop off).take (m * sz)) = r)
    (hk : CW P T M n c ⟨t, (h.kill tk).set v (cs.set i r)⟩ Q) : CW P T M n c ⟨t, h⟩ Q := by
  subst hr
  refine ⟨fun h1 h2 h3 => ?_⟩
  have h4 := hk.out h1 h2 h3
  intro E w0 Z0 ρ a w R
  obtain ⟨H', up⟩ := R.heap.kill tk
  have hil : i < cs.length := by
    apply Classical.byContradiction; intro hc
    rw [List.getElem?_eq_none (by omega)] at hi; cases hi
  obtain ⟨H2, up2⟩ := H'.recell (tk := v) (cs := cs) (r := cs.set i (.lst false sz m ((ds.drop off).take (m * sz)))) (by rw [HP.kill_other _ hne]; exact hb) (by simp) (fun j u hj hu => by
    by_cases e : i = j
    · subst e
      rw [set_getD_same hil]
      rw [show cs.getD i .junk = .ref tk off sz m by rw [List.getD_eq_getElem?_getD, hi]; rfl] at hu
      exact R.heap.thaw ht hl hu
    · rw [set_getD_other e]; exact hu)
  exact h4 E w0 Z0 ρ a w ⟨R.defers, R.size, fun x => up2 _ _ (up _ _ (R.tmps x)), H2, fun p u h => up2 _ _ (up _ _ (R.mem p u h))⟩
/-- a nil slice in a cell is an empty slice of one's own -/
theorem CW.ownC {c : Code} (v i sz : Nat) {s' : Nat} {cs : List PV} (hb : h.blk v = some cs) (hi : cs[i]? = some (.lst true s' 0 [])) (hne : v < 2 * h.next) (hk : CW P T M n c ⟨t, (h.add false []).set v (cs.set i (.ref (h.tok false) 0 sz 0))⟩ Q) : CW P T M n c ⟨t, h⟩ Q := by
  refine ⟨fun h1 h2 h3 => ?_⟩
  have h4 := hk.out h1 h2 h3
  intro E w0 Z0 ρ a w R
  obtain ⟨H', up⟩ := R.heap.empty false
  have hil : i < cs.length := by
    apply Classical.byContradiction; intro hc
    rw [List.getElem?_eq_none (by omega)] at hi; cases hi
  obtain ⟨H2, up2⟩ := H'.recell (tk := v) (cs := cs) (r := cs.set i (.ref (h.tok false) 0 sz 0)) (by have h9 := (HP.tok_ge h false).1; exact (HP.add_other _ _ _ (show v ≠ h.tok false by omega)).trans hb) (by simp) (fun j u hj hu => by
    by_cases e : i = j
    · subst e
      rw [set_getD_same hil]
      rw [show cs.getD i .junk = .lst true s' 0 [] by rw [List.getD_eq_getElem?_getD, hi]; rfl] at hu
      obtain ⟨cap, A, f, rfl, g1, g2, g3, g4, g5, g6⟩ := hu.lst_inv
      have hc0 : cap = 0 := g2 rfl
      exact .ref _ _ _ _ _ _ g1 g3 (fun hc => absurd hc0 hc)
    · rw [set_getD_other e]; exact hu)
  exact h4 E w0 Z0 ρ a w ⟨R.defers, R.size, fun x => up2 _ _ (up _ _ (R.tmps x)), H2, fun p u h => up2 _ _ (up _ _ (R.mem p u h))⟩
/-- only some slots and facts on the heap go on -/
theorem CW.cut {c : Code} {s : AS} (sl : List (Nat × PV)) (hp : HP → Prop) (h0 : allS sl s.tmps ∧ hp s.hp) (hk : ∀ t h, hp h → CW P T M n c ⟨updS sl t, h⟩ Q) : CW P T M n c s Q := by
  have := hk s.tmps s.hp h0.2
  rwa [updS_eta _ _ h0.1] at this
/-- what reads as the one reads as the other, too: capacities are forgotten, at any depth -/
inductive Wea : PV → PV → Prop
  | refl (p : PV) : Wea p p
  | nil (b : Bool) (s s' : Nat) : Wea (.lst b s 0 []) (.lst false s' 0 [])
  | lst {b : Bool} {sz n : Nat} {cs ds : List PV} (hl : ds.length = cs.length) (h : ∀ i, i < cs.length → Wea (cs.getD i .junk) (ds.getD i .junk)) : Wea (.lst b sz n cs) (.lst false sz n ds)
  | agg {cs ds : List PV} (hl : ds.length = cs.length) (h : ∀ i, i < cs.length → Wea (cs.getD i .junk) (ds.getD i .junk)) : Wea (.agg cs) (.agg ds)
theorem V.wk {ρ : Pl} {Z : Nat → Prop} {w : World} {p q : PV} (h : Wea p q) : ∀ u, V ρ Z w p u → V ρ Z w q u := by
  induction h with
  | refl p => intro u hu; exact hu
  | nil b s s' =>
    intro u hu
    obtain ⟨cap, A, f, rfl, g1, g2, g3, g4, g5, g6⟩ := hu.lst_inv
    exact .lst _ _ _ cap _ _ f g1 (fun hh => by cases hh) g3 (by simp) (fun hne => absurd rfl hne) (fun i hi => by simp at hi)
  | lst hl h ih =>
    intro u hu
    obtain ⟨cap, A, f, rfl, g1, g2, g3, g4, g5, g6⟩ := hu.lst_inv
    refine .lst _ _ _ cap _ _ f g1 (fun hh => by cases hh) g3 (by rw [hl]; exact g4) (fun hne => ?_) (fun i hi => ih i (by omega) _ (g6 i (by omega)))
    obtain ⟨b, o, e1, e2, e3, e4⟩ := g5 (fun e => hne (List.eq_nil_of_length_eq_zero (by rw [hl, e]; rfl)))
    exact ⟨b, o, e1, e2, e3, fun i hi => e4 i (by omega)⟩
  | agg hl h ih =>
    intro u hu
    cases hu with
    | agg _ vs e1 e2 => exact .agg _ _ (by rw [hl]; exact e1) (fun i hi => ih i (by omega) _ (e2 i (by omega)))
theorem SC.wk {f : FuncId} {args args' : List PV} {r : PV} (h : SC P f args' r) (hl : args'.length = args.length) (hw : ∀ i, i < args.length → Wea (args.getD i .junk) (args'.getD i .junk)) : SC P f args r :=
  ⟨h.1, fun Z w vs hz hs hv => h.2 Z w vs hz (by omega) (fun i hi => V.wk (hw i (by omega)) _ (hv i (by omega)))⟩
end Go.Proofs.Ythacglggkgmbhaa

/- Steps with numbers that wrap, in regions that keep the order of their text; what a slot holds read anew. Nothing of the program is here. -/
set_option linter.unusedVariables false
set_option linter.unusedSimpArgs false
namespace Go.Proofs.Ythacglggkgmbhaa
open Go.RowKit
variable {P : Program} {T : TypeId → TI} {M : Hn} {cl : Oper → Cls} {ops : Array Oper} {l : List Oper} {t : Nat → PV} {h : HP} {K : AS → Prop} {d : Nat} {ty : TypeId} {pos : String} {aft : Array Edge} {n : Nat} {Q : Exit → AS → Prop}

/-- what a slot holds, its capacity forgotten -/
theorem CW.nrmS {c : Code} (d : Nat) {v : PV} (hv : (t d).nrm0 = v) (hk : CW P T M n c ⟨upd t d v, h⟩ Q) : CW P T M n c ⟨t, h⟩ Q := by
  refine ⟨fun h1 h2 h3 => ?_⟩
  have h4 := hk.out h1 h2 h3
  intro E w0 Z0 ρ a w R
  refine h4 E w0 Z0 ρ a w ⟨R.defers, R.size, fun x => ?_, R.heap, R.mem⟩
  by_cases e : x = d
  · subst e
    show V _ _ _ (upd t x v x) _
    rw [upd_same, ← hv]
    exact V.nrm0 (R.tmps x)
  · show V _ _ _ (upd t d v x) _
    rw [show upd t d v x = t x by simp [upd, e]]
    exact R.tmps x
end Go.Proofs.Ythacglggkgmbhaa

/- Calls of function values that turn the caller's heap; regions that draw their order and end in such a call. Nothing of the program is here. -/
set_option linter.unusedVariables false
set_option linter.unusedSimpArgs false
namespace Go.Proofs.Ythacglggkgmbhaa
open Go.RowKit

theorem OpE.callv {P : Program} {o : Oper} {s : AS} {K : PV → HP → Prop} {f : FuncId} {cap : List PV} {y : Operand} {xs : Array Operand} {ats : Array TypeId} (ho : o.op = .call ⟨.value y, xs, ats⟩) (hy : evA s.tmps y = .clo f cap) (hs : SChE P f (xs.toList.map (evA s.tmps) ++ cap) s.hp K) : OpE P o s K := by
  intro w0 Z0 ρ w a Kw Q H he hK
  have e1 := he y
  rw [hy] at e1
  obtain ⟨vs, e2, q1, q2⟩ := e1.clo_inv
  obtain ⟨hl, hv⟩ := map_args (ρ := ρ) (w := w) (rfl : xs.toList.map (evA s.tmps) = _) a.eval (Zof Z0 ρ s.hp) (fun x _ => he x)
  have hall : ∀ i, i < (xs.toList.map (evA s.tmps) ++ cap).length → V ρ (Zof Z0 ρ s.hp) w ((xs.toList.map (evA s.tmps) ++ cap).getD i .junk) ((xs.map a.eval ++ vs).getD i undef) := fun i hi => by
    by_cases c1 : i < xs.size
    · have := hv i (by simpa using c1)
      have e3 : (xs.toList.map (evA s.tmps) ++ cap).getD i .junk = (xs.toList.map (evA s.tmps)).getD i .junk := by simp [List.getD, List.getElem?_append_left (show i < (xs.toList.map (evA s.tmps)).length by simpa using c1)]
      have e4 : (xs.map a.eval ++ vs).getD i undef = (xs.map a.eval).getD i undef := by simp [Array.getElem?_append_left (show i < (xs.map a.eval).size by simpa using c1)]
      rw [e3, e4]; exact this
    · have := q2 (i - xs.size) (by simp at hi; omega)
      have e3 : (xs.toList.map (evA s.tmps) ++ cap).getD i .junk = cap.getD (i - xs.size) .junk := by simp [List.getD, List.getElem?_append_right (show (xs.toList.map (evA s.tmps)).length ≤ i by simpa using Nat.le_of_not_lt c1)]
      have e4 : (xs.map a.eval ++ vs).getD i undef = vs.getD (i - xs.size) undef := by simp [Array.getElem?_append_right (show (xs.map a.eval).size ≤ i by simpa using Nat.le_of_not_lt c1)]
      rw [e3, e4]; exact this
  obtain ⟨fn, k1, k2, k3⟩ := hs.1
  have k2' : fn.name ≠ "runtime.NumGoroutine" := by simpa using k2
  have k3' : fn.body ≠ none := by intro e; simp [e] at k3
  have hrun : (execOp a.eval o).run P w = .ok (.enter f (xs.map a.eval ++ vs)) w := by
    simp [execOp, ho, resolve, Deferred.ofValue, e2, invoke, callFunc, k1, k2', k3']
  unfold Oper.wp
  rw [hrun]
  refine (hs.2 w0 Z0 ρ w _ H (by simp [q1]) hall).mono ?_
  rintro _ w' ⟨u, ρ', r, h', rfl, hQ', H', hv', up⟩
  exact hK r h' u w' ρ' hQ' H' hv' up
section
variable {P : Program} {T : TypeId → TI} {M : Hn} {t : Nat → PV} {h : HP} {cl : Oper → Cls} {ops : Array Oper} {l : List Oper} {K : AS → Prop} {d : Nat} {ty : TypeId} {pos : String} {aft : Array Edge}
/-- a call of a function value that turns the heap -/
theorem AW.callve {y : Operand} {f : FuncId} {cap : List PV} {xs : Array Operand} {ats : Array TypeId} {args : List PV} {Q0 : PV → HP → Prop} (hy : evA t y = .clo f cap) (ha : xs.toList.map (evA t) ++ cap = args) (h0 : cl = (fun _ => Cls.wr)) (hs : SChE P f args h Q0) (hk : ∀ r h', Q0 r h' → AW P T M cl ops l ⟨upd t d r, h'⟩ K) :
    AW P T M cl ops (⟨some d, .call ⟨.value y, xs, ats⟩, ty, pos, aft, none⟩ :: l) ⟨t, h⟩ K :=
  ⟨.inr ⟨h0, .inl rfl, (fun _ hh => by cases hh), fun _ => .callv rfl hy (by subst ha; exact hs.mono (fun r h' hq => (hk r h' hq).out))⟩⟩
end

/-! ### a region that draws its order, the last operation apart -/
/-- what the last operation does -/
structure LW (P : Program) (T : TypeId → TI) (n : Nat) (x : Oper) (s : AS) (K : AS → Prop) : Prop where
  out : TOk P T → ∀ E w0 Z0 ρ a w (Kw : Act → World → Prop) (Q : Exit → Act → World → Prop), Rel E w0 Z0 ρ n s a w → (∀ ρ' s' a' w', Rel E w0 Z0 ρ' n s' a' w' → K s' → Kw a' w') → x.wp P a w Kw Q
/-- a slice of one's own is written no more -/
theorem LW.freeze {P : Program} {T : TypeId → TI} {n : Nat} {x : Oper} {t : Nat → PV} {h : HP} {K : AS → Prop} (d : Nat) {tk : Nat} {xs : List Int} (hd : t d = .ref tk 0 1 xs.length) (hb : h.blk tk = some (ints xs)) (hk : LW P T n x ⟨upd t d (pli xs), h.kill tk⟩ K) : LW P T n x ⟨t, h⟩ K := by
  refine ⟨fun hT E w0 Z0 ρ a w Kw Q R hK => ?_⟩
  have R' := R.freeze (d := d) hd hb (by simp)
  rw [show PV.lst false 1 xs.length (((ints xs).drop 0).take (xs.length * 1)) = pli xs by simp [ints_take, pli]] at R'
  exact hk.out hT E w0 Z0 ρ a w Kw Q R' hK

variable {P : Program} {E : PV → Value → Prop} {w0 : World} {Z0 : Nat → Prop} {n : Nat} {cl : Oper → Cls} {ops : Array Oper} {Q : Exit → Act → World → Prop}
/-- every operation ahead of the last one is bound ahead of it -/
def lastOk (ops : Array Oper) (m : Nat) : Bool := Nat.beq ops.size (m + 1) && (List.range m).all (fun j => anc ops ops.size m j)
end Go.Proofs.Ythacglggkgmbhaa
