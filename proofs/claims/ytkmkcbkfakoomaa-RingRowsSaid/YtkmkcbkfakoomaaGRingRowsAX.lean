/- Facts and contracts that the claim uses. No condition of its own. -/
import Derived.Test.YtkmkcbkfakoomaaGRingRowsAW
set_option linter.unusedVariables false
set_option linter.unusedSimpArgs false
namespace Go.Proofs.Ytkmkcbkfakoomaa
open Go.RowKit
variable {P : Program} {T : TypeId → TI} {M : Hn} {cl : Oper → Cls} {ops : Array Oper} {l : List Oper} {t : Nat → PV} {h : HP} {K : AS → Prop} {d : Nat} {ty : TypeId} {pos : String} {aft : Array Edge} {n : Nat} {Q : Exit → AS → Prop}
theorem flat_zeros : ∀ n : Nat, (List.replicate n [PV.sc (.int .i64 0)]).flatten = ints (List.replicate n 0)
  | 0 => rfl
  | n + 1 => by
    rw [List.replicate_succ, List.replicate_succ, List.flatten_cons, flat_zeros n]
    rfl
theorem AW.mkI {tt : TypeId} {x y : Operand} {k1 k2 : IntKind} {a : Int} {n el : Nat} (h0 : cl ⟨some d, .makeSlice tt x y, ty, pos, aft, none⟩ = .wr ∨ cl ⟨some d, .makeSlice tt x y, ty, pos, aft, none⟩ = .wrS) (hx : evA t x = .sc (.int k1 a)) (hy : evA t y = .sc (.int k2 a)) (ht : T tt = .sl el 1 8 [.int .i64 0]) (hn : a = n) (hb : n ≤ 1000000000000)
    (hk : AW P T M cl ops l ⟨upd t d (.ref (h.tok false) 0 1 n), h.add false (ints (List.replicate n 0))⟩ K) : AW P T M cl ops (⟨some d, .makeSlice tt x y, ty, pos, aft, none⟩ :: l) ⟨t, h⟩ K := by
  subst hn
  have := AW.mks (P := P) (M := M) (ops := ops) (l := l) (h := h) (K := K) h0 hx hy ht ⟨by omega, by omega, by omega, by omega⟩
  rw [Int.toNat_natCast, show [Value.int .i64 0].map ofConst.ofCell = [PV.sc (.int .i64 0)] from rfl, flat_zeros] at this
  exact this hk
theorem SC.law {f : FuncId} {args : List PV} {r : Value} (h : SC P f args (.sc r)) (w : World) (vs : Array Value) (hl : vs.size = args.length) (hv : ∀ i, i < args.length → V (fun _ => none) (fun _ => False) w (args.getD i .junk) (vs.getD i undef)) :
    Calls P f vs w fun e w' => e = .returned r ∧ Below w.heap.size w w' :=
  (h.2 (fun _ => False) w vs (fun _ hf => hf.elim) hl hv).mono fun e w' ⟨u, h1, h2, h3⟩ => ⟨by rw [h1, h2.sc_inv], h3⟩
end Go.Proofs.Ytkmkcbkfakoomaa
