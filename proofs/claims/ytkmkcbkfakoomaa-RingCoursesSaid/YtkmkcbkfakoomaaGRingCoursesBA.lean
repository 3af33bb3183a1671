/- Facts and contracts that the claim uses. No condition of its own. -/
import Derived.Test.YtkmkcbkfakoomaaGRingCoursesAZ
import Derived.Test.YtkmkcbkfakoomaaGRingCoursesAC
set_option linter.unusedVariables false
set_option linter.unusedSimpArgs false
namespace Go.Proofs.Ytkmkcbkfakoomaa
open Go.RowKit
variable {P : Program} {T : TypeId → TI} {M : Hn} {cl : Oper → Cls} {ops : Array Oper} {l : List Oper} {t : Nat → PV} {h : HP} {K : AS → Prop} {d : Nat} {ty : TypeId} {pos : String} {aft : Array Edge} {n : Nat} {Q : Exit → AS → Prop}
theorem HRel.cells {w0 : World} {Z0 : Nat → Prop} {ρ : Pl} {w : World} (H : HRel w0 Z0 ρ h w) {tk b k off : Nat} {cs cs2 : List PV} {arr : Array Value} {T : TypeId} {news : List Value} (hb : h.blk tk = some cs) (r1 : ρ tk = some (b, k)) (r3 : w.heap[b]? = some (.cells arr T (0, 0)))
    (hl : cs2.length = news.length) (hle : off + news.length ≤ cs.length) (hv : ∀ i, i < cs2.length → V ρ (Zof Z0 ρ h) w (cs2.getD i .junk) (news.getD i undef)) :
    HRel w0 Z0 ρ (h.set tk (cs.take off ++ cs2 ++ cs.drop (off + news.length))) (w.setRow b (arr.toList.take (k + off) ++ news ++ arr.toList.drop (k + off + news.length)).toArray) ∧
      ∀ pv u, V ρ (Zof Z0 ρ h) w pv u → V ρ (Zof Z0 ρ (h.set tk (cs.take off ++ cs2 ++ cs.drop (off + news.length)))) (w.setRow b (arr.toList.take (k + off) ++ news ++ arr.toList.drop (k + off + news.length)).toArray) pv u := by
  rcases H.live tk cs hb with ⟨_, k1⟩ | ⟨b', o', arr', T', k1, k2, k3, k4, k5⟩
  · rw [r1] at k1; cases k1
  rw [r1] at k1; cases k1
  rw [r3] at k3; cases k3
  have hlen : (cs.take off ++ cs2 ++ cs.drop (off + news.length)).length = cs.length := by simp; omega
  refine H.write hb r1 r3 _ (by simp; omega) _ (by omega) (fun i hi => ?_)
  rw [hlen] at hi
  rw [show ∀ (l : List Value) j, l.toArray.getD j undef = l.getD j undef from fun l j => by simp [Array.getD, List.getD]; split <;> simp_all]
  simp only [List.getD, List.append_assoc]
  by_cases c1 : i < off
  · have := k5 i hi
    simp only [List.getD] at this
    rw [List.getElem?_append_left (by simp; omega), List.getElem?_take, if_pos c1, List.getElem?_append_left (by simp; omega), List.getElem?_take, if_pos (by omega)]
    have hi2 : k + i < arr.size := by omega
    simpa [Array.getD, hi2] using this
  · have y1 : (List.take off cs ++ (cs2 ++ List.drop (off + news.length) cs))[i]? = (cs2 ++ List.drop (off + news.length) cs)[i - off]? := by
      rw [List.getElem?_append_right (by simp; omega)]
      congr 1; simp; omega
    have y2 : (List.take (k + off) arr.toList ++ (news ++ List.drop (k + off + news.length) arr.toList))[k + i]? = (news ++ List.drop (k + off + news.length) arr.toList)[i - off]? := by
      rw [List.getElem?_append_right (by simp; omega)]
      congr 1; simp; omega
    rw [y1, y2]
    by_cases c2 : i < off + news.length
    · have := hv (i - off) (by omega)
      simp only [List.getD] at this
      rw [List.getElem?_append_left (by omega), List.getElem?_append_left (by omega)]
      exact this
    · have := k5 i hi
      simp only [List.getD] at this
      rw [List.getElem?_append_right (by omega), List.getElem?_append_right (by omega), List.getElem?_drop, List.getElem?_drop]
      rw [show off + news.length + (i - off - cs2.length) = i by omega, show k + off + news.length + (i - off - news.length) = k + i by omega]
      have hi2 : k + i < arr.size := by omega
      simpa [Array.getD, hi2] using this
theorem AW.clipG {tt : TypeId} {x hi mx : Operand} {c : Bool} {el bs m : Nat} {zc : List Value} {cs : List PV} {k1 k2 : IntKind} (hx : evA t x = .lst c 1 m cs) (ht : T tt = .sl el 1 bs zc) (hh : evA t hi = .sc (.int k1 m)) (hm : evA t mx = .sc (.int k2 m)) (hl : cs.length = m)
    (hk : AW P T M cl ops l ⟨upd t d (.lst true 1 m cs), h⟩ K) : AW P T M cl ops (⟨some d, .slice tt x none (some hi) (some mx), ty, pos, aft, none⟩ :: l) ⟨t, h⟩ K := by
  have := AW.sll3 (P := P) (M := M) (cl := cl) (ops := ops) (l := l) (h := h) (K := K) (d := d) (ty := ty) (pos := pos) (aft := aft) (lo := none) hx ht (.inl rfl) rfl ⟨_, hh⟩ ⟨_, hm⟩ ⟨Int.le_refl _, by omega, Int.le_refl _⟩
  simp only [Int.toNat_natCast, show Int.toNat 0 = 0 from rfl, Nat.sub_zero, Nat.zero_mul, Nat.mul_one, List.drop_zero] at this
  rw [List.take_of_length_le (by omega)] at this
  exact this hk
end Go.Proofs.Ytkmkcbkfakoomaa

/- Facts and contracts that the claim uses. No condition of its own. -/
set_option linter.unusedVariables false
set_option linter.unusedSimpArgs false
namespace Go.Proofs.Ytkmkcbkfakoomaa
open Go.RowKit
variable {P : Program} {T : TypeId → TI} {M : Hn} {cl : Oper → Cls} {ops : Array Oper} {l : List Oper} {t : Nat → PV} {h : HP} {K : AS → Prop} {d : Nat} {ty : TypeId} {pos : String} {aft : Array Edge} {n : Nat} {Q : Exit → AS → Prop}
end Go.Proofs.Ytkmkcbkfakoomaa

/- Facts and contracts that the claim uses. No condition of its own. -/
set_option linter.unusedVariables false
set_option linter.unusedSimpArgs false
namespace Go.Proofs.Ytkmkcbkfakoomaa
/-! ### what is left -/
def rem (n : Nat) (p : List Nat) : List Nat := (List.range n).filter fun i => !p.contains i
end Go.Proofs.Ytkmkcbkfakoomaa

/- Facts and contracts that the claim uses. No condition of its own. -/
set_option linter.unusedVariables false
set_option linter.unusedSimpArgs false
namespace Go.Proofs.Ytkmkcbkfakoomaa
open Go.RowKit
theorem w64 {z : Int} (h : -9223372036854775808 ≤ z ∧ z ≤ 9223372036854775807) : IntKind.i64.wrap z = z := by
  simp [IntKind.wrap, IntKind.min, IntKind.max, IntKind.signed, IntKind.bits]
  omega
theorem bin_shr (b r : Nat) (hr : r ≤ 60) (t : TypeId) (x y : Operand) (w : World) : (do eqGuard .shr t x y (.int .i64 b) (.int .i64 r); binOp .shr t (.int .i64 b) (.int .i64 r) : Sem Value).run Try.prog w = .ok (.int .i64 ((b / 2 ^ r : Nat) : Int)) w := by
  have h1 : (eqGuard .shr t x y (.int .i64 b) (.int .i64 r)).run Try.prog w = .ok () w := rfl
  rw [Sem.run_bind, h1]
  have h2 : min r 64 = r := by omega
  have h3 : ¬ ((r : Int) < 0) := by omega
  simp [binOp, Op.shift, IntKind.bits, h2, h3, Int.fdiv_eq_ediv]
theorem bin_shl (r : Nat) (hr : r ≤ 60) (t : TypeId) (x y : Operand) (w : World) : (do eqGuard .shl t x y (.int .i64 1) (.int .i64 r); binOp .shl t (.int .i64 1) (.int .i64 r) : Sem Value).run Try.prog w = .ok (.int .i64 ((2 ^ r : Nat) : Int)) w := by
  have h1 : (eqGuard .shl t x y (.int .i64 1) (.int .i64 r)).run Try.prog w = .ok () w := rfl
  rw [Sem.run_bind, h1]
  have h2 : min r 64 = r := by omega
  have h3 : ¬ ((r : Int) < 0) := by omega
  have h4 : (2 : Nat) ^ r ≤ 2 ^ 60 := Nat.pow_le_pow_right (by decide) hr
  have e : (1 * 2 ^ r : Int) = ((2 ^ r : Nat) : Int) := by rw [Int.natCast_pow]; simp
  have h5 : IntKind.i64.wrap ((2 ^ r : Nat) : Int) = ((2 ^ r : Nat) : Int) := by
    generalize 2 ^ r = q at h4
    exact w64 (by omega)
  simp only [binOp, Op.shift, IntKind.bits, h3, if_false, Int.toNat_natCast, h2, Result.andThen_ok]
  rw [e, h5]
  rfl
theorem bits_and : ∀ b : Fin 64, IntKind.i64.wrap ((BitVec.ofInt IntKind.i64.bits ((b.val : Nat) : Int) &&& BitVec.ofInt IntKind.i64.bits 1).toNat : Int) = ((b.val % 2 : Nat) : Int) := by decide +kernel
theorem bin_and1 (b : Nat) (hb : b < 64) (t : TypeId) (x y : Operand) (w : World) : (do eqGuard .and t x y (.int .i64 b) (.int .i64 1); binOp .and t (.int .i64 b) (.int .i64 1) : Sem Value).run Try.prog w = .ok (.int .i64 ((b % 2 : Nat) : Int)) w := by
  have h1 : (eqGuard .and t x y (.int .i64 b) (.int .i64 1)).run Try.prog w = .ok () w := rfl
  rw [Sem.run_bind, h1]
  show Result.ok (Value.int .i64 (IntKind.i64.wrap ((BitVec.ofInt IntKind.i64.bits (b : Int) &&& BitVec.ofInt IntKind.i64.bits 1).toNat : Int))) w = _
  rw [bits_and ⟨b, hb⟩]
end Go.Proofs.Ytkmkcbkfakoomaa
