/- Steps with numbers that wrap, in regions that keep the order of their text; what a slot holds read anew. Nothing of the program is here. -/
import Derived.Test.YtaadnnhfoihkgaaAbsU
set_option linter.unusedVariables false
set_option linter.unusedSimpArgs false
namespace Go.Proofs.Ytaadnnhfoihkgaa
open Go.RowKit
variable {P : Program} {T : TypeId → TI} {M : Hn} {cl : Oper → Cls} {ops : Array Oper} {l : List Oper} {t : Nat → PV} {h : HP} {K : AS → Prop} {d : Nat} {ty : TypeId} {pos : String} {aft : Array Edge} {n : Nat} {Q : Exit → AS → Prop}

theorem OpE.ofD {o : Oper} {s : AS} {K : PV → HP → Prop} {v : PV} {h' : HP} (dd : D P (evA s.tmps) .wr o s.hp v h') (hk : K v h') : OpE P o s K :=
  fun w0 Z0 ρ w a Kw Q H he hK => dd.sound H (fun x _ => he x) (fun u w' ρ' H' hv up => hK v h' u w' ρ' hk H' hv up)
/-- -x, whatever it is -/
theorem AW.negW {tt : TypeId} {x : Operand} {a : Int} (hx : evA t x = .sc (.int .i64 a)) (h0 : cl = (fun _ => Cls.wr)) (hk : AW P T M cl ops l ⟨upd t d (.sc (.int .i64 (IntKind.i64.wrap (-a)))), h⟩ K) : AW P T M cl ops (⟨some d, .unOp .neg tt x, ty, pos, aft, none⟩ :: l) ⟨t, h⟩ K :=
  ⟨.inr ⟨h0, .inl rfl, (fun _ hh => by cases hh), fun _ => .ofD (.un rfl hx (fun w => by
    show (Op.intArith .sub IntKind.i64 0 a).run P w = _
    simp [Op.intArith])) hk.out⟩⟩
/-- x - y, whatever it is -/
theorem AW.subW {tt t2 : TypeId} {x y : Operand} {a b : Int} (hx : evA t x = .sc (.int .i64 a)) (hy : evA t y = .sc (.int .i64 b)) (hk : AW P T M cl ops l ⟨upd t d (.sc (.int .i64 (IntKind.i64.wrap (a - b)))), h⟩ K) : AW P T M cl ops (⟨some d, .binOp .sub tt x y t2, ty, pos, aft, none⟩ :: l) ⟨t, h⟩ K :=
  AW.binf (vx := .int .i64 a) (vy := .int .i64 b) (by rw [hx]; rfl) (by rw [hy]; rfl) (fun w => by simp [eqGuard, binOp, Op.intArith]) hk
/-- what a slot holds, its capacity forgotten -/
theorem CW.nrmS {c : Code} (d : Nat) {v : PV} (hv : (t d).nrm0 = v) (hk : CW P T M n c ⟨upd t d v, h⟩ Q) : CW P T M n c ⟨t, h⟩ Q := by
  refine ⟨fun h1 h2 h3 => ?_⟩
  have h4 := hk.out h1 h2 h3
  intro E w0 Z0 ρ a w R
  refine h4 E w0 Z0 ρ a w ⟨R.defers, R.size, fun x => ?_, R.heap, R.mem⟩
  by_cases e : x = d
  · subst e
    show V _ _ _ (upd t x v x) _
    rw [upd_same, ← hv]
    exact V.nrm0 (R.tmps x)
  · show V _ _ _ (upd t d v x) _
    rw [show upd t d v x = t x by simp [upd, e]]
    exact R.tmps x
end Go.Proofs.Ytaadnnhfoihkgaa
