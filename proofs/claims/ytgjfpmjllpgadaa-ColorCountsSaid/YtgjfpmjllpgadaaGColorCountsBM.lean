/- The size of a letter. No condition of its own. -/
import Derived.Test.YtgjfpmjllpgadaaGColorCountsBL
import Derived.Test.YtgjfpmjllpgadaaGColorCountsBE
import Derived.Test.YtgjfpmjllpgadaaGColorCountsBF
set_option linter.unusedVariables false
set_option linter.unusedSimpArgs false
namespace Go.Proofs.Ytgjfpmjllpgadaa
open Go.RowKit

/-- the size of a letter, and its sign -/
def absI (x : Int) : Int := if x < -x then -x else x
def sgI (x : Int) : Int := if 0 < x then 1 else -1
theorem abs_let {n x : Int} (h : letP n x) (hn : n ≤ 6) : 1 ≤ absI x ∧ absI x ≤ n - 1 ∧ (x = absI x ∨ x = -absI x) ∧ -6 < x ∧ x < 6 := by
  obtain ⟨h1, h2, h3⟩ := h
  unfold absI; split <;> omega
set_option maxHeartbeats 2000000 in
set_option maxRecDepth 100000 in
theorem bindex_s (x : Int) (h : -9000000000000000000 ≤ x ∧ x ≤ 9000000000000000000) : SC Try.prog 67 [pint x] (pint (absI x)) := by
  refine SC.go {} tok mixed Try.func67 rfl rfl Try.ntmps67 rfl rfl (by kernel_rfl) ?_
  first | simp only [updS] | simp only [updL, Nat.reduceAdd]
  repeat (first | refine S0 ?_ | refine S1 ?_ | refine S2 ?_ | refine S7 ?_ | refine S8 ?_ | refine S19 ?_ | refine S20 ?_ | refine S35 ?_ | refine S54 ?_)
  exact ⟨.inr rfl, .cl rfl⟩
set_option maxHeartbeats 2000000 in
set_option maxRecDepth 100000 in
theorem rindex_s (x : Int) (h : -9000000000000000000 ≤ x ∧ x ≤ 9000000000000000000) : SC Try.prog 73 [pint x] (pint (absI x)) := by
  refine SC.go {} tok mixed Try.func73 rfl rfl Try.ntmps73 rfl rfl (by kernel_rfl) ?_
  first | simp only [updS] | simp only [updL, Nat.reduceAdd]
  repeat (first | refine S0 ?_ | refine S1 ?_ | refine S2 ?_ | refine S7 ?_ | refine S8 ?_ | refine S19 ?_ | refine S20 ?_ | refine S35 ?_ | refine S54 ?_)
  exact ⟨.inr rfl, .cl rfl⟩
end Go.Proofs.Ytgjfpmjllpgadaa

/- Braids: the permutation, the exponent sum, the inverse. No condition of its own. -/
set_option linter.unusedVariables false
set_option linter.unusedSimpArgs false
namespace Go.Proofs.Ytgjfpmjllpgadaa
open Go.RowKit

/-- what a letter of size i does to a place -/
def tau (i j : Nat) : Nat := if j + 1 = i then i else if j = i then i - 1 else j
def ltr (x : Int) : Nat := (absI x).toNat
/-- where a strand is after the letters; which strand is at a place -/
def eAt (w : List Int) : Nat → Nat → Nat
  | 0, s => s
  | k + 1, s => tau (ltr (w.getD k 0)) (eAt w k s)
def fAt (w : List Int) : Nat → Nat → Nat
  | 0, j => j
  | k + 1, j => fAt w k (tau (ltr (w.getD k 0)) j)
structure Wd (n : Nat) (w : List Int) : Prop where
  n9 : n ≤ 6
  len : w.length ≤ 30
  lt : ∀ k, k < w.length → letP n (w.getD k 0)
theorem Wd.of {n : Int} {w : List Int} (h : bF n w = 0) : ∃ m : Nat, n = (m : Int) ∧ 1 ≤ m ∧ Wd m w := by
  obtain ⟨h1, h2, h3⟩ := bF_ok h
  refine ⟨n.toNat, by omega, by omega, by omega, h2, fun k hk => ?_⟩
  rw [show ((n.toNat : Nat) : Int) = n by omega]
  exact h3 _ (by rw [getD_lt 0 hk]; exact List.getElem_mem hk)
theorem Wd.ltr {n : Nat} {w : List Int} (h : Wd n w) {k : Nat} (hk : k < w.length) : 1 ≤ ltr (w.getD k 0) ∧ ltr (w.getD k 0) < n ∧ ((ltr (w.getD k 0) : Nat) : Int) = absI (w.getD k 0) := by
  have := abs_let (h.lt k hk) (by have := h.n9; omega)
  unfold Go.Proofs.Ytgjfpmjllpgadaa.ltr; omega
end Go.Proofs.Ytgjfpmjllpgadaa

/- slices.Clone as a slice of the function's own. No condition of its own. -/
set_option linter.unusedVariables false
set_option linter.unusedSimpArgs false
namespace Go.Proofs.Ytgjfpmjllpgadaa
open Go.RowKit

set_option maxHeartbeats 2000000 in
set_option maxRecDepth 100000 in
theorem clone_o (xs : List Int) (hl : xs.length ≤ 1000000) : SCo Try.prog 76 [pli xs] 1 xs.length (ints xs) := by
  refine SCo.go {} tok mixed Try.func76 rfl rfl Try.ntmps76 rfl rfl (by kernel_rfl) ?_
  first | simp only [updS] | simp only [updL, Nat.reduceAdd]
  by_cases h0 : xs.length = 0
  · obtain rfl : xs = [] := List.length_eq_zero_iff.1 h0
    repeat (first | refine S0 ?_ | refine S1 ?_ | refine S2 ?_ | refine S5 ?_ | refine S7 ?_ | refine S8 ?_ | refine S9 ?_ | refine S16 ?_ | refine S17 ?_ ?_ | refine S19 ?_ | refine S20 ?_ | refine S49 ?_ | refine S57 ?_ | refine S64 ?_)
    · exact ⟨.inr rfl, Ow.nil⟩
    · repeat (first | refine S0 ?_ | refine S1 ?_ | refine S2 ?_ | refine S5 ?_ | refine S7 ?_ | refine S8 ?_ | refine S9 ?_ | refine S16 ?_ | refine S17 ?_ ?_ | refine S19 ?_ | refine S20 ?_ | refine S49 ?_ | refine S57 ?_ | refine S64 ?_)
      refine AW.ap0 (by first | exact Or.inl rfl | exact Or.inr ⟨rfl, HP.tok_even _⟩ | exact Or.inr (Or.inl ⟨rfl, HP.tok_even _⟩) | exact Or.inr (Or.inr ⟨rfl, HP.tok_odd _⟩) | exact Or.inr (Or.inl rfl) | exact Or.inr (Or.inr (Or.inl rfl)) | exact Or.inr (Or.inr (Or.inr (Or.inl ⟨rfl, HP.tok_odd _⟩))) | exact Or.inr (Or.inr (Or.inr (Or.inr ⟨rfl, HP.tok_even _⟩))) | exact Or.inr (Or.inr (Or.inr (Or.inr ⟨rfl, by assumption⟩))) | exact Or.inr ⟨rfl, by assumption⟩ | exact Or.inr (Or.inl ⟨rfl, by assumption⟩) | exact Or.inr (Or.inr ⟨rfl, by assumption⟩) | exact Or.inr (Or.inr (Or.inr (Or.inl ⟨rfl, by assumption⟩))) | exact Or.inr (Or.inr (Or.inl ⟨rfl, HP.tok_odd _⟩)) | exact Or.inr (Or.inr (Or.inl ⟨rfl, by assumption⟩)) | exact Or.inr (Or.inr (Or.inr rfl)) | exact Or.inr (Or.inr rfl) | exact Or.inr rfl) (by simp only [evA, upd, putA, ofConst, ofConst.ofCell, Nat.reduceEqDiff, ↓reduceIte, List.map_cons, List.map_nil, List.toList_toArray]; first | done | rfl) rfl (by first | exact ⟨rfl, rfl, .inr rfl⟩ | exact ⟨rfl, rfl, .inl rfl⟩ | (simp only [evA, upd, putA, Nat.reduceEqDiff, ↓reduceIte]; first | exact ⟨rfl, rfl, .inr rfl⟩ | exact ⟨rfl, rfl, .inl rfl⟩)) ?_
      repeat (first | refine S0 ?_ | refine S1 ?_ | refine S2 ?_ | refine S5 ?_ | refine S7 ?_ | refine S8 ?_ | refine S9 ?_ | refine S16 ?_ | refine S17 ?_ ?_ | refine S19 ?_ | refine S20 ?_ | refine S49 ?_ | refine S57 ?_ | refine S64 ?_)
      exact ⟨.inr rfl, Ow.nil⟩
  · repeat (first | refine S0 ?_ | refine S1 ?_ | refine S2 ?_ | refine S5 ?_ | refine S7 ?_ | refine S8 ?_ | refine S9 ?_ | refine S16 ?_ | refine S17 ?_ ?_ | refine S19 ?_ | refine S20 ?_ | refine S49 ?_ | refine S57 ?_ | refine S64 ?_)
    exact ⟨.inr rfl, Ow.ints HBx rfl rfl⟩
end Go.Proofs.Ytgjfpmjllpgadaa

/- Calls of function values that turn the caller's heap; regions that draw their order and end in such a call. Nothing of the program is here. -/
set_option linter.unusedVariables false
set_option linter.unusedSimpArgs false
namespace Go.Proofs.Ytgjfpmjllpgadaa
open Go.RowKit

theorem OpE.callv {P : Program} {o : Oper} {s : AS} {K : PV → HP → Prop} {f : FuncId} {cap : List PV} {y : Operand} {xs : Array Operand} {ats : Array TypeId} (ho : o.op = .call ⟨.value y, xs, ats⟩) (hy : evA s.tmps y = .clo f cap) (hs : SChE P f (xs.toList.map (evA s.tmps) ++ cap) s.hp K) : OpE P o s K := by
  intro w0 Z0 ρ w a Kw Q H he hK
  have e1 := he y
  rw [hy] at e1
  obtain ⟨vs, e2, q1, q2⟩ := e1.clo_inv
  obtain ⟨hl, hv⟩ := map_args (ρ := ρ) (w := w) (rfl : xs.toList.map (evA s.tmps) = _) a.eval (Zof Z0 ρ s.hp) (fun x _ => he x)
  have hall : ∀ i, i < (xs.toList.map (evA s.tmps) ++ cap).length → V ρ (Zof Z0 ρ s.hp) w ((xs.toList.map (evA s.tmps) ++ cap).getD i .junk) ((xs.map a.eval ++ vs).getD i undef) := fun i hi => by
    by_cases c1 : i < xs.size
    · have := hv i (by simpa using c1)
      have e3 : (xs.toList.map (evA s.tmps) ++ cap).getD i .junk = (xs.toList.map (evA s.tmps)).getD i .junk := by simp [List.getD, List.getElem?_append_left (show i < (xs.toList.map (evA s.tmps)).length by simpa using c1)]
      have e4 : (xs.map a.eval ++ vs).getD i undef = (xs.map a.eval).getD i undef := by simp [Array.getElem?_append_left (show i < (xs.map a.eval).size by simpa using c1)]
      rw [e3, e4]; exact this
    · have := q2 (i - xs.size) (by simp at hi; omega)
      have e3 : (xs.toList.map (evA s.tmps) ++ cap).getD i .junk = cap.getD (i - xs.size) .junk := by simp [List.getD, List.getElem?_append_right (show (xs.toList.map (evA s.tmps)).length ≤ i by simpa using Nat.le_of_not_lt c1)]
      have e4 : (xs.map a.eval ++ vs).getD i undef = vs.getD (i - xs.size) undef := by simp [Array.getElem?_append_right (show (xs.map a.eval).size ≤ i by simpa using Nat.le_of_not_lt c1)]
      rw [e3, e4]; exact this
  obtain ⟨fn, k1, k2, k3⟩ := hs.1
  have k2' : fn.name ≠ "runtime.NumGoroutine" := by simpa using k2
  have k3' : fn.body ≠ none := by intro e; simp [e] at k3
  have hrun : (execOp a.eval o).run P w = .ok (.enter f (xs.map a.eval ++ vs)) w := by
    simp [execOp, ho, resolve, Deferred.ofValue, e2, invoke, callFunc, k1, k2', k3']
  unfold Oper.wp
  rw [hrun]
  refine (hs.2 w0 Z0 ρ w _ H (by simp [q1]) hall).mono ?_
  rintro _ w' ⟨u, ρ', r, h', rfl, hQ', H', hv', up⟩
  exact hK r h' u w' ρ' hQ' H' hv' up
section
variable {P : Program} {T : TypeId → TI} {M : Hn} {t : Nat → PV} {h : HP} {cl : Oper → Cls} {ops : Array Oper} {l : List Oper} {K : AS → Prop} {d : Nat} {ty : TypeId} {pos : String} {aft : Array Edge}
end

/-! ### a region that draws its order, the last operation apart -/
/-- what the last operation does -/
structure LW (P : Program) (T : TypeId → TI) (n : Nat) (x : Oper) (s : AS) (K : AS → Prop) : Prop where
  out : TOk P T → ∀ E w0 Z0 ρ a w (Kw : Act → World → Prop) (Q : Exit → Act → World → Prop), Rel E w0 Z0 ρ n s a w → (∀ ρ' s' a' w', Rel E w0 Z0 ρ' n s' a' w' → K s' → Kw a' w') → x.wp P a w Kw Q
/-- a slice of one's own is written no more -/
theorem LW.freeze {P : Program} {T : TypeId → TI} {n : Nat} {x : Oper} {t : Nat → PV} {h : HP} {K : AS → Prop} (d : Nat) {tk : Nat} {xs : List Int} (hd : t d = .ref tk 0 1 xs.length) (hb : h.blk tk = some (ints xs)) (hk : LW P T n x ⟨upd t d (pli xs), h.kill tk⟩ K) : LW P T n x ⟨t, h⟩ K := by
  refine ⟨fun hT E w0 Z0 ρ a w Kw Q R hK => ?_⟩
  have R' := R.freeze (d := d) hd hb (by simp)
  rw [show PV.lst false 1 xs.length (((ints xs).drop 0).take (xs.length * 1)) = pli xs by simp [ints_take, pli]] at R'
  exact hk.out hT E w0 Z0 ρ a w Kw Q R' hK

variable {P : Program} {E : PV → Value → Prop} {w0 : World} {Z0 : Nat → Prop} {n : Nat} {cl : Oper → Cls} {ops : Array Oper} {Q : Exit → Act → World → Prop}
/-- every operation ahead of the last one is bound ahead of it -/
def lastOk (ops : Array Oper) (m : Nat) : Bool := Nat.beq ops.size (m + 1) && (List.range m).all (fun j => anc ops ops.size m j)
end Go.Proofs.Ytgjfpmjllpgadaa
