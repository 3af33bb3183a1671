/- Lists of polynomials: their cells, slices.Grow and slices.Concat. No condition of its own. -/
import Derived.Lib.Walk
import Derived.Lib.SliceRun
import Derived.Lib.AppendZerosOnto
import Derived.Test.YtenoiklocdoemaaGBraidBurausBK
import Derived.Test.YtenoiklocdoemaaGBraidBurausAS
import Derived.Test.YtenoiklocdoemaaGBraidBurausAU
import Derived.Test.YtenoiklocdoemaaGBraidBurausBG
import Derived.Test.YtenoiklocdoemaaGBraidBurausBI
import Derived.Test.YtenoiklocdoemaaGBraidBurausBJ
import Derived.Test.YtenoiklocdoemaaGBraidBurausBB
set_option linter.unusedVariables false
set_option linter.unusedSimpArgs false
namespace Go.Proofs.Ytenoiklocdoemaa
open Go.RowKit

/-- the cells of a list of polynomials -/
def pos (l : List Po) : List PV := l.flatMap fun p => [pint p.1, pli p.2]
theorem pos_cons (p : Po) (l : List Po) : pos (p :: l) = pint p.1 :: pli p.2 :: pos l := rfl
theorem pos_length : ∀ l : List Po, (pos l).length = l.length * 2
  | [] => rfl
  | p :: l => by rw [pos_cons, List.length_cons, List.length_cons, pos_length l, List.length_cons]; omega
theorem pos_append (a b : List Po) : pos a ++ pos b = pos (a ++ b) := by simp [pos]
theorem pos_take : ∀ (l : List Po) (k : Nat), (pos l).take (k * 2) = pos (l.take k)
  | [], k => by simp [pos]
  | p :: l, 0 => by simp [pos]
  | p :: l, k + 1 => by
    rw [pos_cons, show (k + 1) * 2 = k * 2 + 1 + 1 by omega, List.take_succ_cons, List.take_succ_cons, pos_take l k]; rfl
theorem pos_drop : ∀ (l : List Po) (k : Nat), (pos l).drop (k * 2) = pos (l.drop k)
  | [], k => by simp [pos]
  | p :: l, 0 => by simp [pos]
  | p :: l, k + 1 => by
    rw [pos_cons, show (k + 1) * 2 = k * 2 + 1 + 1 by omega, List.drop_succ_cons, List.drop_succ_cons, pos_drop l k]; rfl
@[simp] theorem pos_cl : ∀ l : List Po, PV.cl.clL (pos l) = true
  | [] => rfl
  | p :: l => by rw [pos_cons]; simp only [PV.cl.clL, pint_cl, pli_cl, pos_cl l, Bool.and_self]
theorem pos_at {l : List Po} {k : Nat} (h : k < l.length) : ((pos l).drop (k * 2)).take 2 = [pint (l.getD k (0, [])).1, pli (l.getD k (0, [])).2] := by
  rw [pos_drop, List.drop_eq_getElem_cons h, pos_cons, getD_lt _ h]; rfl
theorem Fz.refC {h : HP} {t sz n : Nat} {cs : List PV} (hb : h.blk t = some cs) (hn : cs.length = n * sz) (hc : PV.cl.clL cs = true) : Fz h (.ref t 0 sz n) (.lst false sz n cs) :=
  .ref hb (by omega) hn (fun i hi => by
    rw [Nat.zero_add]
    refine .cl ?_
    have hm := clL_mem.1 hc
    have : cs.getD i .junk = cs[i]'(by omega) := by simp [List.getD, show i < cs.length by omega]
    rw [this]
    exact hm _ (List.getElem_mem _))
/-- a list of polynomials -/
def pps (l : List Po) : PV := .lst false 2 l.length (pos l)
@[simp] theorem pps_cl (l : List Po) : (pps l).cl = true := by unfold pps; simp only [PV.cl, pos_cl]
/-- a list of lists of polynomials -/
def ppss (m : List (List Po)) : PV := .lst false 1 m.length (m.map pps)
@[simp] theorem ppss_cl (m : List (List Po)) : (ppss m).cl = true := by
  simp only [ppss, PV.cl]
  refine clL_mem.2 (fun c hc => ?_)
  obtain ⟨x, _, rfl⟩ := List.mem_map.1 hc
  exact pps_cl x
def pcP (p : Bool × List Po) : PV := .lst p.1 2 p.2.length (pos p.2)
def flatP (cs : List (Bool × List Po)) : List Po := cs.flatMap (·.2)
end Go.Proofs.Ytenoiklocdoemaa

/- polymatrix.Expand: the determinant by rows. No condition of its own. -/
set_option linter.unusedVariables false
set_option linter.unusedSimpArgs false
namespace Go.Proofs.Ytenoiklocdoemaa
open Go.RowKit

section
variable {P : Program} {T : TypeId → TI} {M : Hn} {cl : Oper → Cls} {ops : Array Oper} {l : List Oper} {t : Nat → PV} {h : HP} {K : AS → Prop} {d : Nat} {ty : TypeId} {pos' : String} {aft : Array Edge} {tt : TypeId} {x : Operand} {c : Bool} {el bs q : Nat} {zc : List Value} {k1 : IntKind}
end
/-- some rows and columns of a matrix, as polynomials -/
noncomputable def mat (M : Nat → Nat → LP) (rs cs : List Nat) : List (List Po) := rs.map fun r => cs.map fun c => poW (M r c)
theorem poW_zero : poW 0 = (0, []) := cano_zero (fun _ => rfl)
end Go.Proofs.Ytenoiklocdoemaa

/- timbref1.PolyDet: the determinant over all permutations. No condition of its own. -/
set_option linter.unusedVariables false
set_option linter.unusedSimpArgs false
namespace Go.Proofs.Ytenoiklocdoemaa
open Go.RowKit

/-! ### rows of terms -/
def ptm (f : Tm) : PV := .fmap (mi f)
def ptms (l : List Tm) : PV := .lst false 1 l.length (l.map ptm)
def ptmss (m : List (List Tm)) : PV := .lst false 1 m.length (m.map ptms)
@[simp] theorem ptms_cl (l : List Tm) : (ptms l).cl = true := by
  simp only [ptms, PV.cl]
  refine clL_mem.2 (fun c hc => ?_)
  obtain ⟨x, _, rfl⟩ := List.mem_map.1 hc
  rfl
@[simp] theorem ptmss_cl (m : List (List Tm)) : (ptmss m).cl = true := by
  simp only [ptmss, PV.cl]
  refine clL_mem.2 (fun c hc => ?_)
  obtain ⟨x, _, rfl⟩ := List.mem_map.1 hc
  exact ptms_cl x
theorem mapG_drop0 {α : Type} {F : α → PV} (d : α) {l : List α} {k : Nat} (h : k < l.length) : ((l.map F).drop k)[0]? = some (F (l.getD k d)) := by simp [List.getD, h]
/-- no term -/
def tm0 : Tm := fun _ => none
/-- a square matrix of terms that stands for a matrix of the ring -/
structure TMx (tm : List (List Tm)) (n B : Nat) (M : Nat → Nat → LP) : Prop where
  hn : n ≤ 6
  hB : B ≤ 300
  len : tm.length = n
  row : ∀ i, i < n → (tm.getD i []).length = n
  is : ∀ i j, i < n → j < n → IsT B ((tm.getD i []).getD j tm0) (M i j)
  sup : ∀ i j, Sup B (M i j)
/-- the product that is made -/
noncomputable def tprd (tm : List (List Tm)) (q : List Nat) : Nat → Tm
  | 0 => fun x => if x = 0 then some (sgn (invs q)) else none
  | i + 1 => wT (tmul (tprd tm q i) ((tm.getD i []).getD (q.getD i 0) tm0))
/-- the sum that is made -/
noncomputable def tsum (tm : List (List Tm)) (n : Nat) (ps : List (List Nat)) : Tm := ps.foldl (fun f q => wT (tplus f (tprd tm q n) 1)) tm0
noncomputable def valT (tm : List (List Tm)) (n : Nat) (ps : List (List Nat)) : List PV := [.fmap (mi (tsum tm n ps))]
end Go.Proofs.Ytenoiklocdoemaa

/- Burau matrices over the ring of Laurent polynomials: products, bounds, determinants. Plain facts: nothing of the program is here. -/
set_option linter.unusedVariables false
set_option linter.unusedSimpArgs false
namespace Go.Proofs.Ytenoiklocdoemaa

/-! ### letters -/
noncomputable def e00 (x : Int) : LP := if 0 < x then LP.mono 1 0 + LP.mono (-1) 1 else 0
noncomputable def e01 (x : Int) : LP := if 0 < x then LP.mono 1 1 else 1
noncomputable def e10 (x : Int) : LP := if 0 < x then 1 else LP.mono 1 (-1)
noncomputable def e11 (x : Int) : LP := if 0 < x then 0 else LP.mono 1 0 + LP.mono (-1) (-1)
noncomputable def unitM : Nat → Nat → LP := fun r c => if r = c then 1 else 0
/-- a matrix times the matrix of a letter -/
noncomputable def stepM (A : Nat → Nat → LP) (x : Int) : Nat → Nat → LP := fun r c =>
  if c + 1 = x.natAbs then A r (x.natAbs - 1) * e00 x + A r x.natAbs * e10 x else if c = x.natAbs then A r (x.natAbs - 1) * e01 x + A r x.natAbs * e11 x else A r c
noncomputable def burM (w : List Int) : Nat → Nat → LP := w.foldl stepM unitM
theorem burM_snoc (w : List Int) (x : Int) : burM (w ++ [x]) = stepM (burM w) x := by unfold burM; rw [List.foldl_append]; rfl
noncomputable def mmul (n : Nat) (A B : Nat → Nat → LP) : Nat → Nat → LP := fun r c => smP (List.range n) (fun j => A r j * B j c)
theorem smP_mulr {α : Type} (c : LP) (g : α → LP) (l : List α) : smP l (fun x => g x * c) = smP l g * c := by
  rw [LP.mul_comm, ← smP_mul]
  exact smP_congr (fun x _ => LP.mul_comm _ _)
theorem step_mul (n : Nat) (A B : Nat → Nat → LP) (x : Int) (r c : Nat) : stepM (mmul n A B) x r c = mmul n A (stepM B x) r c := by
  have key : ∀ (u v : LP) (p q : Nat), mmul n A B r p * u + mmul n A B r q * v = smP (List.range n) (fun j => A r j * (B j p * u + B j q * v)) := fun u v p q => by
    unfold mmul
    rw [← smP_mulr, ← smP_mulr, ← smP_add]
    exact smP_congr (fun j _ => by rw [LP.mul_add, LP.mul_assoc, LP.mul_assoc])
  unfold stepM
  by_cases h1 : c + 1 = x.natAbs
  · rw [if_pos h1, key]
    unfold mmul
    exact smP_congr (fun j _ => by simp only [if_pos h1])
  · by_cases h2 : c = x.natAbs
    · rw [if_neg h1, if_pos h2, key]
      unfold mmul
      exact smP_congr (fun j _ => by simp only [if_neg h1, if_pos h2])
    · rw [if_neg h1, if_neg h2]
      unfold mmul
      exact smP_congr (fun j _ => by simp only [if_neg h1, if_neg h2])
theorem smP_one {n c : Nat} (h : c < n) (g : Nat → LP) : smP (List.range n) (fun j => g j * unitM j c) = g c := by
  have key : ∀ m, smP (List.range m) (fun j => g j * unitM j c) = if c < m then g c else 0 := by
    intro m
    induction m with
    | zero => rfl
    | succ m ih =>
      rw [List.range_succ, smP_append, ih]
      simp only [smP, LP.add_zero]
      unfold unitM
      by_cases e : m = c
      · subst e
        rw [if_pos rfl, if_neg (by omega), if_pos (by omega), LP.mul_one, LP.zero_add]
      · rw [if_neg e, LP.mul_zero, LP.add_zero]
        by_cases h2 : c < m
        · rw [if_pos h2, if_pos (by omega)]
        · rw [if_neg h2, if_neg (by omega)]
  rw [key, if_pos h]
theorem letter_ok {n : Nat} {x : Int} (h : 1 ≤ x.natAbs ∧ x.natAbs < n) {A A' : Nat → Nat → LP} (he : ∀ r c, r < n → c < n → A r c = A' r c) : ∀ r c, r < n → c < n → stepM A x r c = stepM A' x r c := fun r c hr hc => by
  unfold stepM
  rw [he r _ hr (by omega), he r x.natAbs hr (by omega), he r c hr hc]
/-- the product of two words is the product of their matrices -/
theorem burM_app {n : Nat} (u : List Int) : ∀ (k : Nat) (v : List Int), v.length = k → (∀ x ∈ v, 1 ≤ x.natAbs ∧ x.natAbs < n) → ∀ r c, r < n → c < n → burM (u ++ v) r c = mmul n (burM u) (burM v) r c
  | 0, v, hv, _, r, c, hr, hc => by
    obtain rfl := List.eq_nil_of_length_eq_zero hv
    rw [List.append_nil]
    exact (smP_one hc (fun j => burM u r j)).symm
  | k + 1, v, hv, hl, r, c, hr, hc => by
    have hne : v ≠ [] := by intro e; rw [e] at hv; simp at hv
    obtain ⟨v', x, rfl⟩ : ∃ v' x, v = v' ++ [x] := ⟨v.dropLast, v.getLast hne, (List.dropLast_concat_getLast hne).symm⟩
    have ih := burM_app u k v' (by simpa using hv) (fun y hy => hl y (by simp [hy]))
    rw [← List.append_assoc, burM_snoc, burM_snoc, ← step_mul]
    exact letter_ok (hl x (by simp)) ih r c hr hc
/-! ### supports -/
theorem e_sup (x : Int) : Sup 1 (e00 x) ∧ Sup 1 (e01 x) ∧ Sup 1 (e10 x) ∧ Sup 1 (e11 x) := by
  unfold e00 e01 e10 e11
  refine ⟨?_, ?_, ?_, ?_⟩ <;> split
  · exact (Sup.monom _ _ (by omega)).add (Sup.monom _ _ (by omega))
  · exact Sup.zero
  · exact Sup.monom _ _ (by omega)
  · exact Sup.one (by omega)
  · exact Sup.one (by omega)
  · exact Sup.monom _ _ (by omega)
  · exact Sup.zero
  · exact (Sup.monom _ _ (by omega)).add (Sup.monom _ _ (by omega))
theorem stepM_sup {k : Nat} {A : Nat → Nat → LP} (h : ∀ r c, Sup (k : Int) (A r c)) (x : Int) : ∀ r c, Sup ((k + 1 : Nat) : Int) (stepM A x r c) := fun r c => by
  obtain ⟨h1, h2, h3, h4⟩ := e_sup x
  unfold stepM
  split
  · exact (Sup.mul (C := 1) (h _ _) h1).add (Sup.mul (C := 1) (h _ _) h3)
  · split
    · exact (Sup.mul (C := 1) (h _ _) h2).add (Sup.mul (C := 1) (h _ _) h4)
    · exact (h r c).mono (by omega)
theorem unitM_sup (r c : Nat) : Sup ((0 : Nat) : Int) (unitM r c) := by
  unfold unitM
  split
  · exact Sup.one (by omega)
  · exact Sup.zero
theorem fold_sup : ∀ (w : List Int) (k : Nat) (A : Nat → Nat → LP), (∀ r c, Sup (k : Int) (A r c)) → ∀ r c, Sup ((k + w.length : Nat) : Int) (w.foldl stepM A r c)
  | [], k, A, h, r, c => h r c
  | x :: w, k, A, h, r, c => by
    have := fold_sup w (k + 1) (stepM A x) (stepM_sup h x) r c
    rw [show k + (x :: w).length = k + 1 + w.length by simp; omega]
    exact this
theorem burM_sup (w : List Int) (r c : Nat) : Sup (w.length : Int) (burM w r c) := by
  have := fold_sup w 0 unitM unitM_sup r c
  rwa [Nat.zero_add] at this
end Go.Proofs.Ytenoiklocdoemaa
