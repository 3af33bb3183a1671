/- Facts and contracts that the claim uses. No condition of its own. -/
import Derived.Test.YtkmkcbkfakoomaaDoorGRingTextsBC
import Derived.Test.YtkmkcbkfakoomaaDoorGRingTextsBB
import Derived.Test.YtkmkcbkfakoomaaDoorGRingTextsBA
set_option linter.unusedVariables false
set_option linter.unusedSimpArgs false
namespace Go.Proofs.YtkmkcbkfakoomaaDoor
open Go.RowKit
theorem OpE.callv {P : Program} {o : Oper} {s : AS} {K : PV → HP → Prop} {f : FuncId} {cap : List PV} {y : Operand} {xs : Array Operand} {ats : Array TypeId} (ho : o.op = .call ⟨.value y, xs, ats⟩) (hy : evA s.tmps y = .clo f cap) (hs : SChE P f (xs.toList.map (evA s.tmps) ++ cap) s.hp K) : OpE P o s K := by
  intro w0 Z0 ρ w a Kw Q H he hK
  have e1 := he y
  rw [hy] at e1
  obtain ⟨vs, e2, q1, q2⟩ := e1.clo_inv
  obtain ⟨hl, hv⟩ := map_args (ρ := ρ) (w := w) (rfl : xs.toList.map (evA s.tmps) = _) a.eval (Zof Z0 ρ s.hp) (fun x _ => he x)
  have hall : ∀ i, i < (xs.toList.map (evA s.tmps) ++ cap).length → V ρ (Zof Z0 ρ s.hp) w ((xs.toList.map (evA s.tmps) ++ cap).getD i .junk) ((xs.map a.eval ++ vs).getD i undef) := fun i hi => by
    by_cases c1 : i < xs.size
    · have := hv i (by simpa using c1)
      have e3 : (xs.toList.map (evA s.tmps) ++ cap).getD i .junk = (xs.toList.map (evA s.tmps)).getD i .junk := by simp [List.getD, List.getElem?_append_left (show i < (xs.toList.map (evA s.tmps)).length by simpa using c1)]
      have e4 : (xs.map a.eval ++ vs).getD i undef = (xs.map a.eval).getD i undef := by simp [Array.getElem?_append_left (show i < (xs.map a.eval).size by simpa using c1)]
      rw [e3, e4]; exact this
    · have := q2 (i - xs.size) (by simp at hi; omega)
      have e3 : (xs.toList.map (evA s.tmps) ++ cap).getD i .junk = cap.getD (i - xs.size) .junk := by simp [List.getD, List.getElem?_append_right (show (xs.toList.map (evA s.tmps)).length ≤ i by simpa using Nat.le_of_not_lt c1)]
      have e4 : (xs.map a.eval ++ vs).getD i undef = vs.getD (i - xs.size) undef := by simp [Array.getElem?_append_right (show (xs.map a.eval).size ≤ i by simpa using Nat.le_of_not_lt c1)]
      rw [e3, e4]; exact this
  obtain ⟨fn, k1, k2, k3⟩ := hs.1
  have k2' : fn.name ≠ "runtime.NumGoroutine" := by simpa using k2
  have k3' : fn.body ≠ none := by intro e; simp [e] at k3
  have hrun : (execOp a.eval o).run P w = .ok (.enter f (xs.map a.eval ++ vs)) w := by
    simp [execOp, ho, resolve, Deferred.ofValue, e2, invoke, callFunc, k1, k2', k3']
  unfold Oper.wp
  rw [hrun]
  refine (hs.2 w0 Z0 ρ w _ H (by simp [q1]) hall).mono ?_
  rintro _ w' ⟨u, ρ', r, h', rfl, hQ', H', hv', up⟩
  exact hK r h' u w' ρ' hQ' H' hv' up
section
variable {P : Program} {T : TypeId → TI} {M : Hn} {t : Nat → PV} {h : HP} {cl : Oper → Cls} {ops : Array Oper} {l : List Oper} {K : AS → Prop} {d : Nat} {ty : TypeId} {pos : String} {aft : Array Edge}
end
/-! ### a region that draws its order, the last operation apart -/
structure LW (P : Program) (T : TypeId → TI) (n : Nat) (x : Oper) (s : AS) (K : AS → Prop) : Prop where
  out : TOk P T → ∀ E w0 Z0 ρ a w (Kw : Act → World → Prop) (Q : Exit → Act → World → Prop), Rel E w0 Z0 ρ n s a w → (∀ ρ' s' a' w', Rel E w0 Z0 ρ' n s' a' w' → K s' → Kw a' w') → x.wp P a w Kw Q
theorem LW.freeze {P : Program} {T : TypeId → TI} {n : Nat} {x : Oper} {t : Nat → PV} {h : HP} {K : AS → Prop} (d : Nat) {tk : Nat} {xs : List Int} (hd : t d = .ref tk 0 1 xs.length) (hb : h.blk tk = some (ints xs)) (hk : LW P T n x ⟨upd t d (pli xs), h.kill tk⟩ K) : LW P T n x ⟨t, h⟩ K := by
  refine ⟨fun hT E w0 Z0 ρ a w Kw Q R hK => ?_⟩
  have R' := R.freeze (d := d) hd hb (by simp)
  rw [show PV.lst false 1 xs.length (((ints xs).drop 0).take (xs.length * 1)) = pli xs by simp [ints_take, pli]] at R'
  exact hk.out hT E w0 Z0 ρ a w Kw Q R' hK
variable {P : Program} {E : PV → Value → Prop} {w0 : World} {Z0 : Nat → Prop} {n : Nat} {cl : Oper → Cls} {ops : Array Oper} {Q : Exit → Act → World → Prop}
end Go.Proofs.YtkmkcbkfakoomaaDoor

/- Facts and contracts that the claim uses. No condition of its own. -/
set_option linter.unusedVariables false
set_option linter.unusedSimpArgs false
namespace Go.Proofs.YtkmkcbkfakoomaaDoor
open Go.RowKit
variable {P : Program} {E : PV → Value → Prop} {w0 : World} {Z0 : Nat → Prop} {n : Nat} {cl : Oper → Cls} {ops : Array Oper} {Q : Exit → Act → World → Prop}
end Go.Proofs.YtkmkcbkfakoomaaDoor

/- Facts and contracts that the claim uses. No condition of its own. -/
set_option linter.unusedVariables false
set_option linter.unusedSimpArgs false
namespace Go.Proofs.YtkmkcbkfakoomaaDoor
open Go.RowKit
variable {P : Program} {T : TypeId → TI} {M : Hn} {n : Nat} {t : Nat → PV} {h : HP} {Q : Exit → AS → Prop}
theorem CW.cut {c : Code} {s : AS} (sl : List (Nat × PV)) (hp : HP → Prop) (h0 : allS sl s.tmps ∧ hp s.hp) (hk : ∀ t h, hp h → CW P T M n c ⟨updS sl t, h⟩ Q) : CW P T M n c s Q := by
  have := hk s.tmps s.hp h0.2
  rwa [updS_eta _ _ h0.1] at this
inductive Wea : PV → PV → Prop
  | refl (p : PV) : Wea p p
  | nil (b : Bool) (s s' : Nat) : Wea (.lst b s 0 []) (.lst false s' 0 [])
  | lst {b : Bool} {sz n : Nat} {cs ds : List PV} (hl : ds.length = cs.length) (h : ∀ i, i < cs.length → Wea (cs.getD i .junk) (ds.getD i .junk)) : Wea (.lst b sz n cs) (.lst false sz n ds)
  | agg {cs ds : List PV} (hl : ds.length = cs.length) (h : ∀ i, i < cs.length → Wea (cs.getD i .junk) (ds.getD i .junk)) : Wea (.agg cs) (.agg ds)
theorem V.wk {ρ : Pl} {Z : Nat → Prop} {w : World} {p q : PV} (h : Wea p q) : ∀ u, V ρ Z w p u → V ρ Z w q u := by
  induction h with
  | refl p => intro u hu; exact hu
  | nil b s s' =>
    intro u hu
    obtain ⟨cap, A, f, rfl, g1, g2, g3, g4, g5, g6⟩ := hu.lst_inv
    exact .lst _ _ _ cap _ _ f g1 (fun hh => by cases hh) g3 (by simp) (fun hne => absurd rfl hne) (fun i hi => by simp at hi)
  | lst hl h ih =>
    intro u hu
    obtain ⟨cap, A, f, rfl, g1, g2, g3, g4, g5, g6⟩ := hu.lst_inv
    refine .lst _ _ _ cap _ _ f g1 (fun hh => by cases hh) g3 (by rw [hl]; exact g4) (fun hne => ?_) (fun i hi => ih i (by omega) _ (g6 i (by omega)))
    obtain ⟨b, o, e1, e2, e3, e4⟩ := g5 (fun e => hne (List.eq_nil_of_length_eq_zero (by rw [hl, e]; rfl)))
    exact ⟨b, o, e1, e2, e3, fun i hi => e4 i (by omega)⟩
  | agg hl h ih =>
    intro u hu
    cases hu with
    | agg _ vs e1 e2 => exact .agg _ _ (by rw [hl]; exact e1) (fun i hi => ih i (by omega) _ (e2 i (by omega)))
theorem SC.wk {f : FuncId} {args args' : List PV} {r : PV} (h : SC P f args' r) (hl : args'.length = args.length) (hw : ∀ i, i < args.length → Wea (args.getD i .junk) (args'.getD i .junk)) : SC P f args r :=
  ⟨h.1, fun Z w vs hz hs hv => h.2 Z w vs hz (by omega) (fun i hi => V.wk (hw i (by omega)) _ (hv i (by omega)))⟩
end Go.Proofs.YtkmkcbkfakoomaaDoor

/- Facts and contracts that the claim uses. No condition of its own. -/
set_option linter.unusedVariables false
set_option linter.unusedSimpArgs false
namespace Go.Proofs.YtkmkcbkfakoomaaDoor
open Go.RowKit
end Go.Proofs.YtkmkcbkfakoomaaDoor
