/- The terms of a polynomial in order; products by terms. No condition of its own. -/
import Derived.Test.YtenoiklocdoemaaGTopBurauDetBF
import Derived.Test.YtenoiklocdoemaaGTopBurauDetBG
import Derived.Test.YtenoiklocdoemaaGTopBurauDetAZ
import Derived.Test.YtenoiklocdoemaaGTopBurauDetBD
import Derived.Test.YtenoiklocdoemaaGTopBurauDetAV
set_option linter.unusedVariables false
set_option linter.unusedSimpArgs false
namespace Go.Proofs.Ytenoiklocdoemaa
open Go.RowKit

/-- the terms of a polynomial, in order -/
def enl (a : Po) : Nat → List (Int × Int)
  | 0 => []
  | n + 1 => enl a n ++ (if a.2.getD n 0 = 0 then [] else [(a.1 + n, a.2.getD n 0)])
end Go.Proofs.Ytenoiklocdoemaa

/- The reference's terms for coefficients of any size: Plus and Mul modulo 2^64. No condition of its own. -/
set_option linter.unusedVariables false
set_option linter.unusedSimpArgs false
namespace Go.Proofs.Ytenoiklocdoemaa
open Go.RowKit

/-- all values, modulo 2^64 -/
def wT (f : Tm) : Tm := fun e => (f e).map wrp
theorem tv_wT (f : Tm) (e : Int) : tv (wT f) e = wrp (tv f e) := by
  unfold tv wT
  cases f e <;> rfl
theorem wT_some (f : Tm) (e : Int) : (wT f e).isSome = (f e).isSome := by
  unfold wT
  cases f e <;> rfl
/-! ### terms by the ring -/
/-- the terms stand for an element of the ring, modulo 2^64 -/
structure IsT (B : Nat) (f : Tm) (a : LP) : Prop where
  val : ∀ e, wrp (tv f e) = wrp (a.f e)
  bd : ∀ e, (f e).isSome = true → -(B : Int) ≤ e ∧ e ≤ B
theorem IsT.mono {B C : Nat} {f : Tm} {a : LP} (h : IsT B f a) (hc : B ≤ C) : IsT C f a := ⟨h.val, fun e he => by have := h.bd e he; omega⟩
/-- all pairs of a map with bounded keys, in ascending order -/
def enumT (f : Tm) (lo : Int) : Nat → List (Int × Int)
  | 0 => []
  | n + 1 => enumT f lo n ++ (match f (lo + n) with | some c => [(lo + n, c)] | none => [])
theorem enumT_mem {f : Tm} {lo : Int} : ∀ {n : Nat} {y : Int × Int}, y ∈ enumT f lo n → f y.1 = some y.2 ∧ lo ≤ y.1 ∧ y.1 < lo + n
  | 0, y, h => by cases h
  | n + 1, y, h => by
    rcases List.mem_append.1 h with h | h
    · have := enumT_mem h
      exact ⟨this.1, by omega, by omega⟩
    · cases hc : f (lo + n) with
      | none => rw [hc] at h; cases h
      | some c =>
        rw [hc] at h
        simp only [List.mem_singleton] at h
        subst h
        exact ⟨hc, by simp only; omega, by simp only; omega⟩
theorem enumT_nodup {f : Tm} {lo : Int} : ∀ n : Nat, ((enumT f lo n).map (·.1)).Nodup
  | 0 => List.nodup_nil
  | n + 1 => by
    unfold enumT
    rw [List.map_append, List.nodup_append]
    refine ⟨enumT_nodup n, ?_, ?_⟩
    · cases f (lo + n) <;> simp
    · intro a ha b hb e
      obtain ⟨y, hy, rfl⟩ := List.mem_map.1 ha
      have := enumT_mem hy
      cases hc : f (lo + n) with
      | none => rw [hc] at hb; cases hb
      | some c =>
        rw [hc] at hb
        simp only [List.map_cons, List.map_nil, List.mem_singleton] at hb
        omega
theorem enumT_all {f : Tm} {lo : Int} : ∀ {n : Nat} {e c : Int}, f e = some c → lo ≤ e → e < lo + n → (e, c) ∈ enumT f lo n
  | 0, e, c, h, h1, h2 => by omega
  | n + 1, e, c, h, h1, h2 => by
    refine List.mem_append.2 ?_
    by_cases he : e = lo + n
    · right
      rw [← he, h]; simp
    · left
      exact enumT_all h h1 (by omega)
theorem enumT_sum (f : Tm) (G : Int → Int) (lo : Int) : ∀ n : Nat, ((enumT f lo n).map fun y => y.2 * G y.1).sum = sI lo n (fun i => tv f i * G i)
  | 0 => rfl
  | n + 1 => by
    unfold enumT
    rw [List.map_append, List.sum_append, enumT_sum f G lo n]
    simp only [sI]
    congr 1
    unfold tv
    cases f (lo + n) <;> simp
theorem IsT.mul {B C : Nat} {f g : Tm} {a b : LP} (h1 : IsT B f a) (h2 : IsT C g b) (ha : Sup B a) : IsT (B + C) (wT (tmul f g)) (a * b) := by
  have hE : Enum f (enumT f (-(B : Int)) (2 * B + 1)) := ⟨fun y hy => (enumT_mem hy).1, enumT_nodup _⟩
  have hF : Full f (enumT f (-(B : Int)) (2 * B + 1)) := fun e c hc => by
    have := h1.bd e (by rw [hc]; rfl)
    exact enumT_all hc (by omega) (by omega)
  rw [tmul_eq hE hF]
  refine ⟨fun e => ?_, fun e he => ?_⟩
  · rw [tv_wT, wrp_wrp, tv_gM, enumT_sum f (fun i => tv g (e - i)), LP.mul_f, cvF_eq a b e ha.win]
    refine wrp_sum (fun i _ _ => ?_)
    rw [← wrp_mull, ← wrp_mulr, h1.val, h2.val, wrp_mulr, wrp_mull]
  · rw [wT_some] at he
    unfold gM at he
    split at he
    · rename_i hh
      obtain ⟨y, hy, hh⟩ := List.any_eq_true.1 hh
      have k1 := enumT_mem hy
      have k2 := h2.bd _ hh
      omega
    · cases he
/-- the values are small -/
def T64 (f : Tm) : Prop := ∀ e, in64 (tv f e)
theorem T64.wT (f : Tm) : T64 (wT f) := fun e => by rw [tv_wT]; exact wrp_64 _
end Go.Proofs.Ytenoiklocdoemaa

/- Calls of function values that turn the caller's heap; regions that draw their order and end in such a call. Nothing of the program is here. -/
set_option linter.unusedVariables false
set_option linter.unusedSimpArgs false
namespace Go.Proofs.Ytenoiklocdoemaa
open Go.RowKit

theorem OpE.callv {P : Program} {o : Oper} {s : AS} {K : PV → HP → Prop} {f : FuncId} {cap : List PV} {y : Operand} {xs : Array Operand} {ats : Array TypeId} (ho : o.op = .call ⟨.value y, xs, ats⟩) (hy : evA s.tmps y = .clo f cap) (hs : SChE P f (xs.toList.map (evA s.tmps) ++ cap) s.hp K) : OpE P o s K := by
  intro w0 Z0 ρ w a Kw Q H he hK
  have e1 := he y
  rw [hy] at e1
  obtain ⟨vs, e2, q1, q2⟩ := e1.clo_inv
  obtain ⟨hl, hv⟩ := map_args (ρ := ρ) (w := w) (rfl : xs.toList.map (evA s.tmps) = _) a.eval (Zof Z0 ρ s.hp) (fun x _ => he x)
  have hall : ∀ i, i < (xs.toList.map (evA s.tmps) ++ cap).length → V ρ (Zof Z0 ρ s.hp) w ((xs.toList.map (evA s.tmps) ++ cap).getD i .junk) ((xs.map a.eval ++ vs).getD i undef) := fun i hi => by
    by_cases c1 : i < xs.size
    · have := hv i (by simpa using c1)
      have e3 : (xs.toList.map (evA s.tmps) ++ cap).getD i .junk = (xs.toList.map (evA s.tmps)).getD i .junk := by simp [List.getD, List.getElem?_append_left (show i < (xs.toList.map (evA s.tmps)).length by simpa using c1)]
      have e4 : (xs.map a.eval ++ vs).getD i undef = (xs.map a.eval).getD i undef := by simp [Array.getElem?_append_left (show i < (xs.map a.eval).size by simpa using c1)]
      rw [e3, e4]; exact this
    · have := q2 (i - xs.size) (by simp at hi; omega)
      have e3 : (xs.toList.map (evA s.tmps) ++ cap).getD i .junk = cap.getD (i - xs.size) .junk := by simp [List.getD, List.getElem?_append_right (show (xs.toList.map (evA s.tmps)).length ≤ i by simpa using Nat.le_of_not_lt c1)]
      have e4 : (xs.map a.eval ++ vs).getD i undef = vs.getD (i - xs.size) undef := by simp [Array.getElem?_append_right (show (xs.map a.eval).size ≤ i by simpa using Nat.le_of_not_lt c1)]
      rw [e3, e4]; exact this
  obtain ⟨fn, k1, k2, k3⟩ := hs.1
  have k2' : fn.name ≠ "runtime.NumGoroutine" := by simpa using k2
  have k3' : fn.body ≠ none := by intro e; simp [e] at k3
  have hrun : (execOp a.eval o).run P w = .ok (.enter f (xs.map a.eval ++ vs)) w := by
    simp [execOp, ho, resolve, Deferred.ofValue, e2, invoke, callFunc, k1, k2', k3']
  unfold Oper.wp
  rw [hrun]
  refine (hs.2 w0 Z0 ρ w _ H (by simp [q1]) hall).mono ?_
  rintro _ w' ⟨u, ρ', r, h', rfl, hQ', H', hv', up⟩
  exact hK r h' u w' ρ' hQ' H' hv' up
section
variable {P : Program} {T : TypeId → TI} {M : Hn} {t : Nat → PV} {h : HP} {cl : Oper → Cls} {ops : Array Oper} {l : List Oper} {K : AS → Prop} {d : Nat} {ty : TypeId} {pos : String} {aft : Array Edge}
end

/-! ### a region that draws its order, the last operation apart -/
/-- what the last operation does -/
structure LW (P : Program) (T : TypeId → TI) (n : Nat) (x : Oper) (s : AS) (K : AS → Prop) : Prop where
  out : TOk P T → ∀ E w0 Z0 ρ a w (Kw : Act → World → Prop) (Q : Exit → Act → World → Prop), Rel E w0 Z0 ρ n s a w → (∀ ρ' s' a' w', Rel E w0 Z0 ρ' n s' a' w' → K s' → Kw a' w') → x.wp P a w Kw Q
theorem LW.ope {P : Program} {T : TypeId → TI} {n d : Nat} {x : Oper} {s : AS} {K : AS → Prop} (hd : x.dst = some d) (hn : d < n) (h : TOk P T → OpE P x s (fun v h' => K ⟨upd s.tmps d v, h'⟩)) : LW P T n x s K :=
  ⟨fun hT E w0 Z0 ρ a w Kw Q R hK => h hT w0 Z0 ρ w a _ _ R.heap (fun y => R.ev y) (fun v h' u w' ρ' hQ' H' hv' up => by
    have R' := R.put (d := x.dst) H' up (fun y hy => by rw [hd] at hy; cases hy; exact hn) hv'
    rw [hd] at R' ⊢
    exact hK ρ' _ _ w' R' hQ')⟩
/-- a slice of one's own is written no more -/
theorem LW.freeze {P : Program} {T : TypeId → TI} {n : Nat} {x : Oper} {t : Nat → PV} {h : HP} {K : AS → Prop} (d : Nat) {tk : Nat} {xs : List Int} (hd : t d = .ref tk 0 1 xs.length) (hb : h.blk tk = some (ints xs)) (hk : LW P T n x ⟨upd t d (pli xs), h.kill tk⟩ K) : LW P T n x ⟨t, h⟩ K := by
  refine ⟨fun hT E w0 Z0 ρ a w Kw Q R hK => ?_⟩
  have R' := R.freeze (d := d) hd hb (by simp)
  rw [show PV.lst false 1 xs.length (((ints xs).drop 0).take (xs.length * 1)) = pli xs by simp [ints_take, pli]] at R'
  exact hk.out hT E w0 Z0 ρ a w Kw Q R' hK

variable {P : Program} {E : PV → Value → Prop} {w0 : World} {Z0 : Nat → Prop} {n : Nat} {cl : Oper → Cls} {ops : Array Oper} {Q : Exit → Act → World → Prop}
/-- every operation ahead of the last one is bound ahead of it -/
def lastOk (ops : Array Oper) (m : Nat) : Bool := Nat.beq ops.size (m + 1) && (List.range m).all (fun j => anc ops ops.size m j)
end Go.Proofs.Ytenoiklocdoemaa

/- slices.Index and slices.Contains at lists of ints. No condition of its own. -/
set_option linter.unusedVariables false
set_option linter.unusedSimpArgs false
namespace Go.Proofs.Ytenoiklocdoemaa
open Go.RowKit

end Go.Proofs.Ytenoiklocdoemaa

/- slices.Clone as a slice of the function's own. No condition of its own. -/
set_option linter.unusedVariables false
set_option linter.unusedSimpArgs false
namespace Go.Proofs.Ytenoiklocdoemaa
open Go.RowKit

end Go.Proofs.Ytenoiklocdoemaa

/- timbref1.Permutations: it calls its function for all permutations, one after the other. No condition of its own. -/
set_option linter.unusedVariables false
set_option linter.unusedSimpArgs false
namespace Go.Proofs.Ytenoiklocdoemaa
open Go.RowKit

/-- numbers as a value -/
def pnat (q : List Nat) : List Int := q.map fun x : Nat => (x : Int)
@[simp] theorem pnat_len (q : List Nat) : (pnat q).length = q.length := by simp [pnat]
theorem pnat_app (p q : List Nat) : pnat (p ++ q) = pnat p ++ pnat q := by simp [pnat]
/-- a permutation of the numbers below n -/
structure Good (n : Nat) (q : List Nat) : Prop where
  len : q.length = n
  lt : ∀ x ∈ q, x < n
  nd : q.Nodup
/-- WHAT A FUNCTION THAT IS CALLED FOR EACH PERMUTATION DOES: it turns the block T0. -/
def Each (n T0 : Nat) (g : FuncId) (cap : List PV) (val : List (List Nat) → List PV) : Prop :=
  ∀ (ps : List (List Nat)) (q : List Nat) (h : HP), T0 < 2 * h.next → h.blk T0 = some (val ps) → Good n q → SChE Try.prog g (pli (pnat q) :: cap) h (fun _ h' => h'.blk T0 = some (val (ps ++ [q])) ∧ Fr [T0] h h')
/-- what is done when the numbers below i are -/
def doneI (n d : Nat) (p : List Nat) (i : Nat) : List (List Nat) := ((rem n p).filter fun x => decide (x < i)).flatMap fun x => (sfx n d (p ++ [x])).map ((p ++ [x]) ++ ·)
/-- the function in the variable -/
def extC (n tE : Nat) (g : FuncId) (cap : List PV) : PV := .clo 67 [.lptr [pint n], .lptr [.clo g cap], .ptr tE 0]
end Go.Proofs.Ytenoiklocdoemaa

/- timbref1.Parity. No condition of its own. -/
set_option linter.unusedVariables false
set_option linter.unusedSimpArgs false
namespace Go.Proofs.Ytenoiklocdoemaa
open Go.RowKit

end Go.Proofs.Ytenoiklocdoemaa
