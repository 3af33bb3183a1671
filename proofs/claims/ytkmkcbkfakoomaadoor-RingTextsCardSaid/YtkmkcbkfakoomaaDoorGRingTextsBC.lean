/- Facts and contracts that the claim uses. No condition of its own. -/
import Derived.Test.YtkmkcbkfakoomaaDoorGRingTextsBB
import Derived.Test.YtkmkcbkfakoomaaDoorGRingTextsAC
import Derived.Test.YtkmkcbkfakoomaaDoorGRingTextsBA
set_option linter.unusedVariables false
set_option linter.unusedSimpArgs false
namespace Go.Proofs.YtkmkcbkfakoomaaDoor
open Go.RowKit
variable {P : Program} {T : TypeId → TI} {M : Hn} {cl : Oper → Cls} {ops : Array Oper} {l : List Oper} {t : Nat → PV} {h : HP} {K : AS → Prop} {d : Nat} {ty : TypeId} {pos : String} {aft : Array Edge} {n : Nat} {Q : Exit → AS → Prop}
end Go.Proofs.YtkmkcbkfakoomaaDoor

/- Facts and contracts that the claim uses. No condition of its own. -/
set_option linter.unusedVariables false
set_option linter.unusedSimpArgs false
namespace Go.Proofs.YtkmkcbkfakoomaaDoor
/-! ### what is left -/
def rem (n : Nat) (p : List Nat) : List Nat := (List.range n).filter fun i => !p.contains i
end Go.Proofs.YtkmkcbkfakoomaaDoor

/- Facts and contracts that the claim uses. No condition of its own. -/
set_option linter.unusedVariables false
set_option linter.unusedSimpArgs false
namespace Go.Proofs.YtkmkcbkfakoomaaDoor
open Go.RowKit
theorem w64 {z : Int} (h : -9223372036854775808 ≤ z ∧ z ≤ 9223372036854775807) : IntKind.i64.wrap z = z := by
  simp [IntKind.wrap, IntKind.min, IntKind.max, IntKind.signed, IntKind.bits]
  omega
theorem bin_shr (b r : Nat) (hr : r ≤ 60) (t : TypeId) (x y : Operand) (w : World) : (do eqGuard .shr t x y (.int .i64 b) (.int .i64 r); binOp .shr t (.int .i64 b) (.int .i64 r) : Sem Value).run Tryd.prog w = .ok (.int .i64 ((b / 2 ^ r : Nat) : Int)) w := by
  have h1 : (eqGuard .shr t x y (.int .i64 b) (.int .i64 r)).run Tryd.prog w = .ok () w := rfl
  rw [Sem.run_bind, h1]
  have h2 : min r 64 = r := by omega
  have h3 : ¬ ((r : Int) < 0) := by omega
  simp [binOp, Op.shift, IntKind.bits, h2, h3, Int.fdiv_eq_ediv]
theorem bin_shl (r : Nat) (hr : r ≤ 60) (t : TypeId) (x y : Operand) (w : World) : (do eqGuard .shl t x y (.int .i64 1) (.int .i64 r); binOp .shl t (.int .i64 1) (.int .i64 r) : Sem Value).run Tryd.prog w = .ok (.int .i64 ((2 ^ r : Nat) : Int)) w := by
  have h1 : (eqGuard .shl t x y (.int .i64 1) (.int .i64 r)).run Tryd.prog w = .ok () w := rfl
  rw [Sem.run_bind, h1]
  have h2 : min r 64 = r := by omega
  have h3 : ¬ ((r : Int) < 0) := by omega
  have h4 : (2 : Nat) ^ r ≤ 2 ^ 60 := Nat.pow_le_pow_right (by decide) hr
  have e : (1 * 2 ^ r : Int) = ((2 ^ r : Nat) : Int) := by rw [Int.natCast_pow]; simp
  have h5 : IntKind.i64.wrap ((2 ^ r : Nat) : Int) = ((2 ^ r : Nat) : Int) := by
    generalize 2 ^ r = q at h4
    exact w64 (by omega)
  simp only [binOp, Op.shift, IntKind.bits, h3, if_false, Int.toNat_natCast, h2, Result.andThen_ok]
  rw [e, h5]
  rfl
theorem bits_and : ∀ b : Fin 64, IntKind.i64.wrap ((BitVec.ofInt IntKind.i64.bits ((b.val : Nat) : Int) &&& BitVec.ofInt IntKind.i64.bits 1).toNat : Int) = ((b.val % 2 : Nat) : Int) := by decide +kernel
theorem bin_and1 (b : Nat) (hb : b < 64) (t : TypeId) (x y : Operand) (w : World) : (do eqGuard .and t x y (.int .i64 b) (.int .i64 1); binOp .and t (.int .i64 b) (.int .i64 1) : Sem Value).run Tryd.prog w = .ok (.int .i64 ((b % 2 : Nat) : Int)) w := by
  have h1 : (eqGuard .and t x y (.int .i64 b) (.int .i64 1)).run Tryd.prog w = .ok () w := rfl
  rw [Sem.run_bind, h1]
  show Result.ok (Value.int .i64 (IntKind.i64.wrap ((BitVec.ofInt IntKind.i64.bits (b : Int) &&& BitVec.ofInt IntKind.i64.bits 1).toNat : Int))) w = _
  rw [bits_and ⟨b, hb⟩]
end Go.Proofs.YtkmkcbkfakoomaaDoor
