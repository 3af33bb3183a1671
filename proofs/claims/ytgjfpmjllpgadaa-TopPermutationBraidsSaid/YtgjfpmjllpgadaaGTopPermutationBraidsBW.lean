/- A function that ranges over slices.Backward: how it begins, how it ends. No condition of its own. -/
import Derived.Test.YtgjfpmjllpgadaaGTopPermutationBraidsBV
set_option linter.unusedVariables false
set_option linter.unusedSimpArgs false
namespace Go.Proofs.Ytgjfpmjllpgadaa
open Go.RowKit Go.Shelf

def plainOp (o : Oper) : Bool := match o.op with
  | .move _ => true
  | .assign _ => true
  | .load .. => true
  | .store .. => true
  | _ => false
theorem plain_res {P : Program} {o : Oper} (h : plainOp o = true) {ρ : Operand → Value} {w w' : World} {nx : Next} (hx : (execOp ρ o).run P w = .ok nx w') : (∃ v, nx = .value v) ∨ nx = .skip := by
  unfold plainOp at h
  cases ho : o.op <;> simp only [ho] at h <;> first | (cases h; done) | skip
  all_goals simp only [execOp, ho, Sem.run_bind, Sem.run_pure] at hx
  · cases hx; exact .inl ⟨_, rfl⟩
  · cases hx; exact .inl ⟨_, rfl⟩
  · rename_i t x
    generalize (Instr.loadAt t (ρ x)).run P w = r at hx
    cases r with
    | ok v w2 => simp only [Result.andThen_ok] at hx; cases hx; exact .inl ⟨_, rfl⟩
    | halt hh w2 => cases hx
  · rename_i t x y
    generalize (Instr.storeAt t (ρ x) (ρ y)).run P w = r at hx
    cases r with
    | ok v w2 => simp only [Result.andThen_ok] at hx; cases hx; exact .inr rfl
    | halt hh w2 => cases hx
theorem plain_nd {o : Oper} (h : plainOp o = true) : ∀ x, o.op ≠ .defer x := fun x e => by unfold plainOp at h; rw [e] at h; cases h
/-- deferred calls that wait change nothing of plain operations -/
theorem op_defers {F : Fence} {m : Nat} {P : Program} {o : Oper} {a : Act} {w : World} {K K' : Act → World → Prop} {Q Q' : Exit → Act → World → Prop} (ds : List Deferred) (hp : plainOp o = true)
    (hK : ∀ a w, K a w → K' { a with defers := ds } w) (hQ : ∀ e a w, Q e a w → Q' e { a with defers := ds } w) (h : o.wpIn F m P a w K Q) : o.wpIn F m P { a with defers := ds } w K' Q' := by
  obtain ⟨h1, h2⟩ := h
  have he : ({ a with defers := ds } : Act).eval = a.eval := by funext x; cases x <;> rfl
  refine ⟨by rw [he]; exact h1, ?_⟩
  rw [he]
  have hput : ∀ v, ({ a with defers := ds } : Act).put o.dst v = { a.put o.dst v with defers := ds } := fun v => by
    unfold Act.put; cases o.dst <;> rfl
  rw [Oper.semAt_eq _ _ _ (plain_nd hp)] at h2 ⊢
  generalize hx : (execOp a.eval o).run P w = r at h2 ⊢
  have key : ∀ v w', K (a.put o.dst v) w' → K' (({ a with defers := ds } : Act).put o.dst v) w' := fun v w' hk => by rw [hput]; exact hK _ _ hk
  cases r with
  | ok nx w' =>
    rcases plain_res hp hx with ⟨v, rfl⟩ | rfl
    · exact key v w' h2
    · exact key undef w' h2
  | halt hh w' => cases hh <;> first | exact hQ _ _ _ h2 | exact h2.elim
theorem list_defers {F : Fence} {m : Nat} {P : Program} {ops : Array Oper} {Q Q' : Exit → Act → World → Prop} (ds : List Deferred) (hQ : ∀ e a w, Q e a w → Q' e { a with defers := ds } w) : ∀ (l : List Oper) (a : Act) (w : World), (l.all plainOp) = true →
    wpListIn F m P ops Q l a w → wpListIn F m P ops Q' l { a with defers := ds } w
  | [], a, w, _, h => hQ _ _ _ h
  | o :: l, a, w, hp, h => by
    simp only [List.all_cons, Bool.and_eq_true] at hp
    unfold wpListIn at h ⊢
    have he : ({ a with defers := ds } : Act).eval = a.eval := by funext x; cases x <;> rfl
    have hput : ∀ v, ({ a with defers := ds } : Act).put o.dst v = { a.put o.dst v with defers := ds } := fun v => by
      unfold Act.put; cases o.dst <;> rfl
    show if Region.wanted o (yielded ops a.tmps) = true then _ else _
    split
    · rename_i hw
      rw [if_pos hw] at h
      exact op_defers ds hp.1 (fun a w hk => list_defers ds hQ l a w hp.2 hk) hQ h
    · rename_i hw
      rw [if_neg hw] at h
      refine ⟨by rw [he]; exact h.1, ?_⟩
      rw [hput]
      exact list_defers ds hQ l _ w hp.2 h.2

/-! ### no maps -/
theorem nf_H0 : HP.Nf H0 := ⟨(fun t cs h => by cases h), fun t => rfl⟩
theorem HP.Nf.add {h : HP} (H : h.Nf) (b : Bool) {cs : List PV} (hc : PV.nf.nfL cs = true) : (h.add b cs).Nf :=
  ⟨(fun t ds e => by
    by_cases c : t = h.tok b
    · subst c; rw [HP.add_same] at e; cases e; exact hc
    · rw [HP.add_other _ _ _ c] at e; exact H.blk t ds e), H.sp⟩
theorem HP.Nf.set {h : HP} (H : h.Nf) (k : Nat) {cs : List PV} (hc : PV.nf.nfL cs = true) : (h.set k cs).Nf :=
  ⟨(fun t ds e => by
    by_cases c : t = k
    · subst c; rw [HP.set_same] at e; cases e; exact hc
    · rw [HP.set_other _ _ c] at e; exact H.blk t ds e), H.sp⟩
theorem HP.Nf.kill {h : HP} (H : h.Nf) (k : Nat) : (h.kill k).Nf := ⟨fun t ds e => H.blk t ds (HP.kill_some e).2, H.sp⟩
def nfS (sl : List (Nat × PV)) : Bool := sl.all fun p => p.2.nf
theorem nfS_upd : ∀ {sl : List (Nat × PV)}, nfS sl = true → ∀ t, (updS sl jk t).nf = true
  | [], _, _ => rfl
  | (d, v) :: l, h, t => by
    simp only [nfS, List.all_cons, Bool.and_eq_true] at h
    show (upd (updS l jk) d v t).nf = true
    unfold upd
    split
    · exact h.1
    · exact nfS_upd h.2 t
theorem V.forget {ρ : Pl} {Z : Nat → Prop} {w : World} {a : Act} {t : Nat → PV} (h : ∀ x, V ρ Z w (t x) (a.tmps.getD x undef)) : ∀ {sl : List (Nat × PV)}, allS sl t → ∀ x, V ρ Z w (updS sl jk x) (a.tmps.getD x undef)
  | [], _, x => .junk _
  | (d, v) :: l, hs, x => by
    show V ρ Z w (upd (updS l jk) d v x) _
    unfold upd
    split
    · rename_i e; subst e; rw [← hs.1]; exact h x
    · exact V.forget h hs.2 x
/-- slots that are not named are forgotten -/
theorem Rel.forget {E : PV → Value → Prop} {w0 : World} {Z0 : Nat → Prop} {ρ : Pl} {n : Nat} {s : AS} {a : Act} {w : World} (R : Rel E w0 Z0 ρ n s a w) {sl : List (Nat × PV)} (h : allS sl s.tmps) : Rel E w0 Z0 ρ n ⟨updS sl jk, s.hp⟩ a w :=
  ⟨R.defers, R.size, V.forget R.tmps h, R.heap, R.mem⟩

/-! ### beginning, one after the other, end -/
theorem SC.ofM {f : FuncId} {fn : Func} {c : Code} {args : List PV} {r : PV} (hf : Try.prog.funcs[f]? = some fn) (hn : (fn.name == "runtime.NumGoroutine") = false) (hb : fn.body = some c) (hk : Nat.ble args.length fn.ntmps = true)
    (h : ∀ w0 Z0 a, Rel E0 w0 Z0 (fun _ => none) fn.ntmps ⟨updL args 0 jk, H0⟩ a w0 → c.wpIn Fence.wide 9 Try.prog (bodyPostM Fence.wide 9 Try.prog fn (fun e w' => ∃ u, e = .returned u ∧ V (fun _ => none) Z0 w' r u ∧ Below w0.heap.size w0 w')) a w0) : SC Try.prog f args r := by
  have hk := Nat.le_of_ble_eq_true hk
  refine ⟨⟨fn, hf, hn, by rw [hb]; rfl⟩, fun Z w vs hz hvs hv => ?_⟩
  have eT : updL args 0 jk = fun t => args.getD t .junk := by
    funext x
    have := argT_eq args 0 x
    rw [Nat.zero_add] at this
    exact this
  have R : Rel E0 w Z (fun _ => none) fn.ntmps ⟨updL args 0 jk, H0⟩ { tmps := vs ++ Array.replicate (fn.ntmps - vs.size) undef, defers := [] } w := by
    rw [eT]
    refine ⟨rfl, by simp; omega, fun t => ?_, ⟨Below.refl _ _, hz, fun t cs h => (by cases h), fun t t' cs cs' b o o' h => (by cases h), fun t _ => ⟨rfl, rfl⟩, fun t c h => (by cases h), fun t t' c c' b h => (by cases h), fun t h => (by cases h)⟩, fun _ _ h => h.elim⟩
    by_cases ht : t < args.length
    · have e1 : (vs ++ Array.replicate (fn.ntmps - vs.size) undef).getD t undef = vs.getD t undef := by
        simp [Array.getElem?_append_left (show t < vs.size by omega)]
      rw [e1]
      exact (hv t ht).mono (fun b _ hb => by
        rcases hb with hb | ⟨t, cs, o, h1, h2⟩ | ⟨t, cs, h1, h2⟩
        · exact hb
        · cases h2
        · cases h2)
    · have e1 : args.getD t .junk = .junk := by simp [List.getD, show args.length ≤ t by omega]
      show V _ _ _ (args.getD t .junk) _
      rw [e1]; exact .junk _
  exact (callsIn_wide (n := 9)).1 (callsIn_of_wp_marks hf hb trivial (h w Z _ R))
theorem CW.wseq {M : Hn} {n : Nat} {s : AS} {x y : Code} {N : AS → Prop} {Q : Exit → Act → World → Prop} {E : PV → Value → Prop} {w0 : World} {Z0 : Nat → Prop} {ρ : Pl} {a : Act} {w : World} (M0 : Hn) (hM : M0 = M) (hc : codeOk M n x = true) (R : Rel E w0 Z0 ρ n s a w)
    (hx : CW Try.prog TT M n x s (fun e s' => e = .normal ∧ N s')) (hy : ∀ ρ' s' a' w', Rel E w0 Z0 ρ' n s' a' w' → N s' → y.wpIn Fence.wide 9 Try.prog Q a' w') : (Code.seq x y).wpIn Fence.wide 9 Try.prog Q a w :=
  wpIn_seq (wpIn_mono (hx.out tok mixed hc E w0 Z0 ρ a w R Fence.wide okf_wide 9) (by rintro e a' w' ⟨ρ', s', h1, rfl, h2⟩; exact hy ρ' s' a' w' h1 h2))
theorem back_ret {M : Hn} {fn : Func} {n id D : Nat} {ops : List Oper} {r : PV} {w0 : World} {Z0 : Nat → Prop} {ρ : Pl} {s : AS} {a : Act} {W : World} {Rr : Ending → World → Prop} (R : Rel E0 w0 Z0 ρ n s a W) (hN : s.hp.Nf) (hKD : W.heap[D]? = some (.deferred (some []))) (hD : w0.heap.size ≤ D)
    (hdst : dstOk n ops = true) (hpl : ops.all plainOp = true)
    (hk : AW Try.prog TT M (fun _ => .wr) ops.toArray ops s (fun s' => ∃ sl, allS sl s'.tmps ∧ nfS sl = true ∧ s'.hp.Nf ∧ FzRes TT ⟨updS sl jk, s'.hp⟩ fn.results.toList r))
    (hR : ∀ u w', V (fun _ => none) Z0 w' r u → Below w0.heap.size w0 w' → Rr (.returned u) w') :
    (Code.seq (.region id ops.toArray false) .ret).wpIn Fence.wide 9 Try.prog (bodyPostM Fence.wide 9 Try.prog fn Rr) { a with defers := { target := .collected D, args := #[] } :: a.defers } W := by
  have R1 : Rel (fun p u => p = .obj D (.deferred (some [])) ∧ u = .bool false) w0 Z0 ρ n s a W := ⟨R.defers, R.size, R.tmps, R.heap, by
    rintro p u ⟨rfl, rfl⟩
    refine .obj D _ (fun hz => ?_) (lt_of_heap hKD) hKD
    rcases hz with hz | ⟨t, cs, o2, h1, h2⟩ | ⟨t, c, h1, h2⟩
    · have := R.heap.z0 D hz; omega
    · rcases R.heap.live t cs h1 with ⟨_, e⟩ | ⟨b', o', arr, T, e, _, hh, _⟩
      · rw [h2] at e; cases e
      · rw [h2] at e; cases e
        rw [hKD] at hh; cases hh
    · rw [hN.sp t] at h1; cases h1⟩
  refine wpIn_seq (wpIn_region_list ?_)
  have h1 := AD_list okf_wide (m := 9) tok (P := Try.prog) (Q := fun e a w => e = .normal ∧ ∃ ρ' s', Rel (fun p u => p = .obj D (.deferred (some [])) ∧ u = .bool false) w0 Z0 ρ' n s' a w ∧ (∃ sl, allS sl s'.tmps ∧ nfS sl = true ∧ s'.hp.Nf ∧ FzRes TT ⟨updS sl jk, s'.hp⟩ fn.results.toList r))
    _ (fun ρ s a w R hk => ⟨rfl, ρ, s, R, hk⟩) ops ρ s a W hdst hk.out R1
  have e0 : ({ target := .collected D, args := #[] } :: a.defers : List Deferred) = [{ target := .collected D, args := #[] }] := by rw [R.defers]
  rw [e0]
  rw [show ops.toArray.toList = ops from rfl]
  refine list_defers _ ?_ ops a W hpl h1
  rintro e a2 w2 ⟨rfl, ρ2, s2, R2, sl, hs, hnf, hN2, hfz⟩
  refine wpIn_ret ?_
  have hK2 : w2.heap[D]? = some (.deferred (some [])) := by
    have := R2.mem _ _ ⟨rfl, rfl⟩
    generalize hq : PV.obj D (.deferred (some [])) = p at this
    cases this <;> cases hq
    assumption
  have R3 : Rel E0 w0 Z0 ρ2 n ⟨updS sl jk, s2.hp⟩ a2 (w2.putObj D (.deferred none)) := by
    have R4 : Rel E0 w0 Z0 ρ2 n s2 a2 w2 := ⟨R2.defers, R2.size, R2.tmps, R2.heap, fun _ _ h => h.elim⟩
    exact (R4.forget hs).grown (nfS_upd hnf) hN2 (grownBy_putObj' w2 D _) (fun r e => by cases e; exact ⟨hD, _, hK2, rfl⟩)
  obtain ⟨u, q1, q2⟩ := FzRes.out tok R3 hfz
  refine ⟨by simp, .inl ⟨_, _, rfl, run_takeDeferred hK2, ?_⟩⟩
  exact ⟨u, q1, hR u _ q2 R3.heap.below⟩
end Go.Proofs.Ytgjfpmjllpgadaa
