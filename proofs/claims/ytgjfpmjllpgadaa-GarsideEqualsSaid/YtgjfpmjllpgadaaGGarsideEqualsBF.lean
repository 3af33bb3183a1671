/- Lists of lists, each with or without room behind it. No condition of its own. -/
import Derived.Test.YtgjfpmjllpgadaaGGarsideEqualsAY
import Derived.Test.YtgjfpmjllpgadaaGGarsideEqualsBE
import Derived.RangeFuncBox
import Derived.RangeFuncLeaves
import Derived.RangeFuncNested
import Derived.Shelf.Abstract
import Derived.WalkKit
import Derived.OwnWalkIn
import Derived.TacticsInMore
import Derived.LoopNIn
import Derived.LoopIn
import Derived.Maps.AppendAt
import Derived.Test.YtgjfpmjllpgadaaGGarsideEqualsBD
import Derived.Test.YtgjfpmjllpgadaaGGarsideEqualsAX
set_option linter.unusedVariables false
set_option linter.unusedSimpArgs false
namespace Go.Proofs.Ytgjfpmjllpgadaa
open Go.RowKit

def pcl (p : Bool × List Int) : PV := .lst p.1 1 p.2.length (ints p.2)
def flat (cs : List (Bool × List Int)) : List Int := cs.flatMap (·.2)
theorem flat_take (cs : List (Bool × List Int)) (k : Nat) : (flat (cs.take k)).length ≤ (flat cs).length := by
  have h := congrArg (fun l => (flat l).length) (List.take_append_drop k cs)
  simp only [flat, List.flatMap_append, List.length_append] at h ⊢
  omega
theorem flat_succ {cs : List (Bool × List Int)} {k : Nat} (hk : k < cs.length) : flat (cs.take (k + 1)) = flat (cs.take k) ++ cs[k].2 := by
  unfold flat
  rw [List.take_succ_eq_append_getElem hk, List.flatMap_append]
  simp only [List.flatMap_cons, List.flatMap_nil, List.append_nil]
end Go.Proofs.Ytgjfpmjllpgadaa

/- Words: Reduced by lists. No condition of its own. -/
set_option linter.unusedVariables false
set_option linter.unusedSimpArgs false
namespace Go.Proofs.Ytgjfpmjllpgadaa
open Go.RowKit

end Go.Proofs.Ytgjfpmjllpgadaa

/- slices.Backward at lists of ints, as a range over a function wants it. No condition of its own. -/
set_option linter.unusedVariables false
set_option linter.unusedSimpArgs false
namespace Go.Proofs.Ytgjfpmjllpgadaa
open Go.RowKit Go.Shelf
attribute [local go_sem] Oper.semAt_some

def upto {α : Type} (f : Nat → α) (k : Nat) : List α := (List.range k).map f
/-- what a round keeps: all below n₀, and the iterator's own box -/
def KpB (n₀ Bs : Nat) (W W' : World) : Prop := Below n₀ W W' ∧ W'.heap[Bs]? = W.heap[Bs]?
theorem KpB.refl (n₀ Bs : Nat) (W : World) : KpB n₀ Bs W W := ⟨Below.refl _ _, rfl⟩
theorem KpB.trans {n₀ Bs : Nat} {A B C : World} (h : KpB n₀ Bs A B) (k : KpB n₀ Bs B C) : KpB n₀ Bs A C := ⟨h.1.trans k.1, k.2.trans h.2⟩
/-- what comes in round j: the index and the value, from the end on -/
def bk (zs : List Int) (j : Nat) : Int × Int := ((zs.length : Int) - 1 - j, zs[zs.length - 1 - j]?.getD 0)

/-- the slice holds zs, below n₀ -/
def HInts (n₀ : Nat) (W : World) (A : Option Addr) (zs : List Int) : Prop := zs = [] ∨ ∃ b off, A = some ⟨b, off, none⟩ ∧ b < n₀ ∧ ∀ j, j < zs.length → W.cell? ⟨b, off + j, none⟩ = some (.int .i64 (zs[j]?.getD 0))
theorem HInts.below {n₀ : Nat} {X Y : World} (h : Below n₀ X Y) {A : Option Addr} {zs : List Int} : HInts n₀ X A zs → HInts n₀ Y A zs
  | .inl e => .inl e
  | .inr ⟨b, off, e, hb, hc⟩ => .inr ⟨b, off, e, hb, fun j hj => (h.cell (p := ⟨b, off + j, none⟩) hb).trans (hc j hj)⟩
theorem HInts.of {w : World} {A : Option Addr} {cap : Nat} {zs : List Int} (h : IsInts w A cap zs) : HInts w.heap.size w A zs := by
  by_cases e : zs = []
  · exact .inl e
  · obtain ⟨b, o, rfl, hlt, hc⟩ := h.row e
    exact .inr ⟨b, o, rfl, hlt, fun j hj => by rw [hc j hj]; simp [List.getD]⟩
/-- what the loop has appended -/
def negs (pre : List (Int × Int)) : List Int := pre.map fun x => wrap64 (-x.2)
def invL (zs : List Int) : List Int := (zs.map fun x => -x).reverse
end Go.Proofs.Ytgjfpmjllpgadaa

/- Words: Reduce, Product, Inverse by lists. No condition of its own. -/
set_option linter.unusedVariables false
set_option linter.unusedSimpArgs false
namespace Go.Proofs.Ytgjfpmjllpgadaa
open Go.RowKit

/-- out[n-1-j] = F j for all j below k, the rest 0 -/
def fillR (n k : Nat) (F : Nat → Int) : List Int := (List.range n).map fun i => if n ≤ i + k then F (n - 1 - i) else 0
theorem fillR_len (n k : Nat) (F : Nat → Int) : (fillR n k F).length = n := by simp [fillR]
theorem fillR_zero (n : Nat) (F : Nat → Int) : fillR n 0 F = List.replicate n 0 := by
  apply List.ext_getElem
  · simp [fillR]
  · intro i h1 h2
    have : i < n := by simpa [fillR] using h1
    simp [fillR, show ¬ n ≤ i by omega]
theorem fillR_set {n k : Nat} {F : Nat → Int} (hk : k < n) : (fillR n k F).set (n - 1 - k) (F k) = fillR n (k + 1) F := by
  apply List.ext_getElem
  · simp [fillR]
  · intro i h1 h2
    have hi : i < n := by simpa [fillR] using h2
    rw [List.getElem_set]
    by_cases e : n - 1 - k = i
    · rw [if_pos e]
      simp [fillR, show n ≤ i + (k + 1) by omega, show n - 1 - i = k by omega]
    · rw [if_neg e]
      simp only [fillR, List.getElem_map, List.getElem_range]
      by_cases h3 : n ≤ i + k
      · rw [if_pos h3, if_pos (by omega)]
      · rw [if_neg h3, if_neg (by omega)]
theorem fillR_inv (w : List Int) : fillR w.length w.length (fun j => -(w.getD j 0)) = invL w := by
  apply List.ext_getElem
  · simp [fillR, invL]
  · intro i h1 h2
    have hi : i < w.length := by simpa [fillR] using h1
    have hj : w.length - 1 - i < w.length := by omega
    simp only [fillR, invL, List.getElem_map, List.getElem_range, List.getElem_reverse, List.length_map]
    rw [if_pos (by omega), getD_lt 0 hj]
set_option maxHeartbeats 2000000 in
set_option maxRecDepth 100000 in
theorem opposite_s {w : List Int} (hlw : w.length ≤ 1000) (hbd : ∀ k, k < w.length → -1000 ≤ w.getD k 0 ∧ w.getD k 0 ≤ 1000) : SC Try.prog 23 [pli w] (pli (invL w)) := by
  refine SC.go {} tok mixed Try.func23 rfl rfl Try.ntmps23 rfl rfl (by kernel_rfl) ?_
  first | simp only [updS] | simp only [updL, Nat.reduceAdd]
  repeat (first | refine S0 ?_ | refine S1 ?_ | refine S2 ?_ | refine S4 ?_ | refine S5 ?_ | refine S6 ?_ | refine S7 ?_ | refine S8 ?_ | refine S10 ?_ | refine S11 ?_ | refine S13 ?_ | refine S15 ?_ | refine S16 ?_ | refine S19 ?_ | refine S20 ?_ | refine S21 ?_ | refine S22 ?_ | refine S23 ?_ | refine S25 ?_ | refine S26 ?_ | refine S27 ?_ | refine S33 ?_ | refine S35 ?_ | refine S65 ?_ | refine S71 ?_)
  refine CW.loopS (fun k : Nat => k ≤ w.length) (fun k => [(0, pli w), (3, .ref 0 0 1 w.length), (9, pli w), (10, pint w.length), (11, pint k)]) (fun k h => h.blk 0 = some (ints (fillR w.length k (fun j => -(w.getD j 0))))) (fun k => w.length - k) 0 ⟨by omega, SLx, by rw [fillR_zero]; exact HBx⟩ ?_
  rintro k t hp hk B
  first | simp only [updS] | simp only [updL, Nat.reduceAdd]
  have hl := fillR_len w.length k (fun j => -(w.getD j 0))
  by_cases hk2 : k < w.length
  · have hs : (fillR w.length k (fun j => -(w.getD j 0))).set (w.length - 1 - k) (-(w.getD k 0)) = fillR w.length (k + 1) (fun j => -(w.getD j 0)) := fillR_set hk2
    have hb := hbd k hk2
    repeat (first | refine S0 ?_ | refine S1 ?_ | refine S2 ?_ | refine S4 ?_ | refine S5 ?_ | refine S6 ?_ | refine S7 ?_ | refine S8 ?_ | refine S10 ?_ | refine S11 ?_ | refine S13 ?_ | refine S15 ?_ | refine S16 ?_ | refine S19 ?_ | refine S20 ?_ | refine S21 ?_ | refine S22 ?_ | refine S23 ?_ | refine S25 ?_ | refine S26 ?_ | refine S27 ?_ | refine S33 ?_ | refine S35 ?_ | refine S65 ?_ | refine S71 ?_)
    simp only [show ((w.length : Int) - 1 - k).toNat = w.length - 1 - k by omega]
    rw [hs]
    exact ⟨k + 1, by omega, SLx, (by (try dsimp only); repeat' (first | exact HBx | exact SBx | refine And.intro ?_ ?_)), by omega⟩
  · obtain rfl : k = w.length := by omega
    rw [fillR_inv] at B
    repeat (first | refine S0 ?_ | refine S1 ?_ | refine S2 ?_ | refine S4 ?_ | refine S5 ?_ | refine S6 ?_ | refine S7 ?_ | refine S8 ?_ | refine S10 ?_ | refine S11 ?_ | refine S13 ?_ | refine S15 ?_ | refine S16 ?_ | refine S19 ?_ | refine S20 ?_ | refine S21 ?_ | refine S22 ?_ | refine S23 ?_ | refine S25 ?_ | refine S26 ?_ | refine S27 ?_ | refine S33 ?_ | refine S35 ?_ | refine S65 ?_ | refine S71 ?_)
    exact ⟨.inr rfl, Fz.refI HBx (by simp [invL]) rfl⟩
def bothF (a b : List Int) : Int := if fF a ≠ 0 then fF a else fF b
def prodF (a b : List Int) : Int := if bothF a b ≠ 0 then bothF a b else if 60 < (red (a ++ b)).length then 2 else 0
def prodL (a b : List Int) : List Int := if prodF a b = 0 then red (a ++ b) else []
end Go.Proofs.Ytgjfpmjllpgadaa

/- garside.Word, the reference's Written; the law GarsideWords holds for all numbers and lists. No condition of its own. -/
set_option linter.unusedVariables false
set_option linter.unusedSimpArgs false
namespace Go.Proofs.Ytgjfpmjllpgadaa
open Go.RowKit

def twN (N : Nat) : List Int := spell (rvT N)
def twS (N : Nat) (power : Int) : List Int := if power < 0 then invL (twN N) else twN N
def wrt (N : Nat) (power : Int) (l : List (List Int)) : List Int := rp (twS N power) power.natAbs ++ l.flatMap spell
def gwF (n power : Int) (l : List (List Int)) : Int := if gF n l ≠ 0 then gF n l else if power < -30 ∨ 30 < power then 2 else if 30 < (wrt n.toNat power l).length then 2 else 0
def gwL (n power : Int) (l : List (List Int)) : List Int := if gwF n power l = 0 then wrt n.toNat power l else []
end Go.Proofs.Ytgjfpmjllpgadaa

/- Braids as powers of the half twist and permutations: letters, moves, turning. Plain facts: nothing of the program is here. -/
set_option linter.unusedVariables false
set_option linter.unusedSimpArgs false
namespace Go.Proofs.Ytgjfpmjllpgadaa

def hlf (n : Nat) : Nat → Nat := fun i => n - 1 - i
def trn (n : Nat) (f : Nat → Nat) : Nat → Nat := fun j => n - 1 - f (n - 1 - j)
theorem hlf_isP (n : Nat) : IsP (hlf n) n := ⟨fun i hi => by unfold hlf; omega, fun a b ha hb e => by unfold hlf at e; omega⟩
theorem trn_isP {n : Nat} {f : Nat → Nat} (h : IsP f n) : IsP (trn n f) n :=
  ⟨fun i hi => by unfold trn; omega, fun a b ha hb e => by
    have h1 := h.lt (n - 1 - a) (by omega)
    have h2 := h.lt (n - 1 - b) (by omega)
    unfold trn at e
    have := h.inj (n - 1 - a) (n - 1 - b) (by omega) (by omega) (by omega)
    omega⟩
theorem spw_congr {n : Nat} {f g : Nat → Nat} (h : ∀ i, i < n → f i = g i) : spw n f = spw n g := by unfold spw; rw [tab_ext h]
/-- the half twist goes past a letter -/
theorem hlf_let {n i : Nat} (hn : n ≤ 6) (hi : 1 ≤ i ∧ i < n) : WE n (spw n (hlf n) ++ [(i : Int)]) (((n - i : Nat) : Int) :: spw n (hlf n)) := by
  have hp := hlf_isP n
  have hX := psw_isP hp (i := n - 1 - i) (by omega)
  have k1 := spw_desc hn _ (hlf n) (n - 1 - i) hp (Nat.le_refl _) (by omega) (by unfold hlf; omega)
  have k2 := spw_last hn _ (psw (hlf n) (n - 1 - i)) (i - 1) (n - 1 - i) (n - 1 - i + 1) hX (Nat.le_refl _) (by omega) (by omega) (by rw [psw_at]; unfold hlf; omega) (by rw [psw_at1]; unfold hlf; omega)
  have e : spw n (vsw (psw (hlf n) (n - 1 - i)) (i - 1)) = spw n (hlf n) := spw_congr (fun j hj => by
    unfold vsw psw hlf tau
    repeat' split
    all_goals omega)
  rw [e] at k2
  have e1 : (((n - 1 - i : Nat) : Int) + 1) = ((n - i : Nat) : Int) := by omega
  have e2 : (((i - 1 : Nat) : Int) + 1) = (i : Int) := by omega
  rw [e1] at k1
  rw [e2] at k2
  have l1 : ((n - i : Nat) : Int) ≠ 0 ∧ ((n - i : Nat) : Int) < n ∧ -(n : Int) < ((n - i : Nat) : Int) := by omega
  refine (WE.right [(i : Int)] (brd_cons l1 (spw_br hn hX)) k1).trans ?_
  rw [List.cons_append]
  exact WE.cons l1 k2.symm
theorem trn_psw {n j : Nat} {f : Nat → Nat} (hj : j + 1 < n) : ∀ k, k < n → psw (trn n f) (n - 2 - j) k = trn n (psw f j) k := fun k hk => by
  unfold psw trn
  have : n - 1 - tau (n - 2 - j + 1) k = tau (j + 1) (n - 1 - k) := by
    unfold tau
    repeat' split
    all_goals omega
  rw [this]
/-- the half twist goes past a permutation -/
theorem hlf_past {n : Nat} (hn : n ≤ 6) : ∀ (N : Nat) (f : Nat → Nat), IsP f n → mu (tabN n f) ≤ N → WE n (spw n (hlf n) ++ spw n f) (spw n (trn n f) ++ spw n (hlf n))
  | 0, f, h, hm => by have := (isP_ent h hn).mu; omega
  | N + 1, f, h, hm => by
    have hh := spw_br hn (hlf_isP n)
    cases hd : desc (tabN n f) with
    | none =>
      have hid : ∀ i, i < n → f i = i := inc_id h (fun i hi hlt => by obtain ⟨j, hj, _⟩ := desc_ex hi hlt; rw [hd] at hj; cases hj)
      have e1 : spw n f = [] := by rw [← spw_id hn]; exact spw_congr hid
      have e2 : spw n (trn n f) = [] := by
        rw [← spw_id hn]
        refine spw_congr (fun i hi => ?_)
        unfold trn
        rw [hid _ (by omega)]
        show n - 1 - (n - 1 - i) = i
        omega
      rw [e1, e2, List.append_nil, List.nil_append]
      exact WE.refl _
    | some j =>
      obtain ⟨j1, j2⟩ := desc_tab hd
      have hpj := psw_isP h j1
      have mj := mu_psw h hn j1 j2
      have ih := hlf_past hn N (psw f j) hpj (by omega)
      rw [spw_some h hn hd]
      have kl := hlf_let (n := n) (i := j + 1) hn (by omega)
      have b1 := h.lt j (by omega)
      have b2 := h.lt (j + 1) j1
      have e1 : n - 1 - (n - 2 - j + 1) = j := by omega
      have e2 : n - 1 - (n - 2 - j) = j + 1 := by omega
      have kd := spw_desc hn _ (trn n f) (n - 2 - j) (trn_isP h) (Nat.le_refl _) (by omega) (by unfold trn; rw [e1, e2]; omega)
      rw [spw_congr (trn_psw j1), show (((n - 2 - j : Nat) : Int) + 1) = ((n - (j + 1) : Nat) : Int) by omega] at kd
      have l1 : ((n - (j + 1) : Nat) : Int) ≠ 0 ∧ ((n - (j + 1) : Nat) : Int) < n ∧ -(n : Int) < ((n - (j + 1) : Nat) : Int) := by omega
      rw [show spw n (hlf n) ++ ((j : Int) + 1) :: spw n (psw f j) = (spw n (hlf n) ++ [((j + 1 : Nat) : Int)]) ++ spw n (psw f j) by simp]
      refine (WE.right _ (brd_cons l1 hh) kl).trans ?_
      rw [List.cons_append]
      refine (WE.cons l1 ih).trans ?_
      rw [← List.cons_append]
      exact WE.right _ (spw_br hn (trn_isP h)) kd.symm
theorem trn_trn {n : Nat} {f : Nat → Nat} (h : IsP f n) : ∀ i, i < n → trn n (trn n f) i = f i := fun i hi => by
  unfold trn
  have := h.lt i hi
  rw [show n - 1 - (n - 1 - i) = i by omega]
  omega
theorem invL_eq (w : List Int) : invL w = invW w := rfl
/-- a power of the half twist -/
def dlt (n : Nat) (k : Int) : List Int := rp (twS n k) k.natAbs
theorem rp_brd {n : Int} {d : List Int} (h : brd n d) : ∀ k, brd n (rp d k)
  | 0 => brd_nil
  | k + 1 => brd_app (rp_brd h k) h
theorem dlt_brd {n : Nat} (hn : n ≤ 6) (k : Int) : brd n (dlt n k) := by
  have h := spw_br hn (hlf_isP n)
  unfold dlt twS
  refine rp_brd ?_ _
  split
  · rw [invL_eq]; exact brd_inv h
  · exact h
theorem dlt_succ {n : Nat} (hn : n ≤ 6) (k : Int) : WE n (dlt n k ++ spw n (hlf n)) (dlt n (k + 1)) := by
  have h := spw_br hn (hlf_isP n)
  unfold dlt twS
  by_cases hk : k < 0
  · rw [if_pos hk]
    obtain ⟨m, rfl⟩ : ∃ m : Nat, k = -((m : Int) + 1) := ⟨(-k - 1).toNat, by omega⟩
    rw [show (-((m : Int) + 1)).natAbs = m + 1 by omega]
    show WE n (rp (invL (twN n)) m ++ invL (twN n) ++ spw n (hlf n)) _
    rw [List.append_assoc]
    have e : rp (if -((m : Int) + 1) + 1 < 0 then invL (twN n) else twN n) (-((m : Int) + 1) + 1).natAbs = rp (invL (twN n)) m := by
      by_cases h0 : m = 0
      · subst h0; rfl
      · rw [if_pos (by omega)]; congr 1; omega
    rw [e]
    have := WE.left (rp (invL (twN n)) m) (rp_brd (by rw [invL_eq]; exact brd_inv h) m) (WE.cancel' h)
    rw [List.append_nil] at this
    exact this
  · rw [if_neg hk, if_neg (by omega)]
    rw [show (k + 1).natAbs = k.natAbs + 1 by omega]
    exact WE.refl _
theorem dlt_pred {n : Nat} (hn : n ≤ 6) (k : Int) : WE n (dlt n k ++ invW (spw n (hlf n))) (dlt n (k - 1)) := by
  have h := spw_br hn (hlf_isP n)
  have h1 := dlt_succ hn (k - 1)
  rw [Int.sub_add_cancel] at h1
  refine (WE.right _ (brd_app (dlt_brd hn _) h) h1.symm).trans ?_
  rw [List.append_assoc]
  have := WE.left (dlt n (k - 1)) (dlt_brd hn _) (WE.cancel h)
  rw [List.append_nil] at this
  exact this
/-- THE WORD of a form -/
def fwd (n : Nat) (k : Int) (F : List (Nat → Nat)) : List Int := dlt n k ++ F.flatMap (spw n)
theorem flat_brd {n : Nat} (hn : n ≤ 6) : ∀ {F : List (Nat → Nat)}, (∀ f ∈ F, IsP f n) → brd n (F.flatMap (spw n))
  | [], _ => brd_nil
  | f :: F, h => by rw [List.flatMap_cons]; exact brd_app (spw_br hn (h f (by simp))) (flat_brd hn (fun g hg => h g (by simp [hg])))
theorem fwd_brd {n : Nat} (hn : n ≤ 6) {k : Int} {F : List (Nat → Nat)} (h : ∀ f ∈ F, IsP f n) : brd n (fwd n k F) := brd_app (dlt_brd hn k) (flat_brd hn h)
/-- the factors are turned -/
theorem flat_trn {n : Nat} (hn : n ≤ 6) : ∀ {F : List (Nat → Nat)}, (∀ f ∈ F, IsP f n) → WE n (spw n (hlf n) ++ F.flatMap (spw n)) ((F.map (trn n)).flatMap (spw n) ++ spw n (hlf n))
  | [], _ => by rw [List.flatMap_nil, List.map_nil, List.flatMap_nil, List.append_nil, List.nil_append]; exact WE.refl _
  | f :: F, h => by
    have h1 := h f (by simp)
    have hF := fun g hg => h g (List.mem_cons_of_mem f hg)
    have ih := flat_trn hn hF
    rw [List.map_cons, List.flatMap_cons, List.flatMap_cons, ← List.append_assoc]
    refine (WE.right _ (brd_app (spw_br hn (trn_isP h1)) (spw_br hn (hlf_isP n))) (hlf_past hn _ f h1 (Nat.le_refl _))).trans ?_
    rw [List.append_assoc, List.append_assoc]
    exact WE.left _ (spw_br hn (trn_isP h1)) ih
theorem map_trn2 {n : Nat} : ∀ {F : List (Nat → Nat)}, (∀ f ∈ F, IsP f n) → ((F.map (trn n)).map (trn n)).flatMap (spw n) = F.flatMap (spw n)
  | [], _ => rfl
  | f :: F, h => by
    rw [List.map_cons, List.map_cons, List.flatMap_cons, List.flatMap_cons, map_trn2 (fun g hg => h g (List.mem_cons_of_mem f hg)), spw_congr (trn_trn (h f (by simp)))]
theorem trn_all {n : Nat} {F : List (Nat → Nat)} (h : ∀ f ∈ F, IsP f n) : ∀ f ∈ F.map (trn n), IsP f n := fun f hf => by
  obtain ⟨g, hg, rfl⟩ := List.mem_map.1 hf
  exact trn_isP (h g hg)
/-- an inverse half twist goes to the beginning -/
theorem fwd_turn {n : Nat} (hn : n ≤ 6) {k : Int} {F : List (Nat → Nat)} (h : ∀ f ∈ F, IsP f n) : WE n (fwd n k F ++ invW (spw n (hlf n))) (fwd n (k - 1) (F.map (trn n))) := by
  have hh := spw_br hn (hlf_isP n)
  have hF := flat_brd hn h
  have hT := flat_brd hn (trn_all h)
  have k1 := flat_trn hn (trn_all h)
  rw [map_trn2 h] at k1
  unfold fwd
  rw [List.append_assoc]
  have k2 : WE n (F.flatMap (spw n) ++ invW (spw n (hlf n))) (invW (spw n (hlf n)) ++ (F.map (trn n)).flatMap (spw n)) := by
    refine WE.lcan hh ?_
    rw [← List.append_assoc, ← List.append_assoc]
    have k3 := flat_trn hn h
    refine (WE.right _ (brd_app hT hh) k3).trans ?_
    rw [List.append_assoc]
    have a := WE.left ((F.map (trn n)).flatMap (spw n)) hT (WE.cancel hh)
    rw [List.append_nil] at a
    have b := WE.right ((F.map (trn n)).flatMap (spw n)) brd_nil (WE.cancel hh)
    rw [List.nil_append] at b
    exact a.trans b.symm
  refine (WE.left (dlt n k) (dlt_brd hn k) k2).trans ?_
  rw [← List.append_assoc]
  exact WE.right _ (dlt_brd hn _) (dlt_pred hn k)
/-- a letter as a factor -/
theorem spw_let {n v : Nat} (hn : n ≤ 6) (hv : v + 1 < n) : spw n (vsw id v) = [(v : Int) + 1] := by
  have hp := vsw_isP (id_isP n) hv
  have hd : desc (tabN n (vsw id v)) = some v := by
    refine desc_some (by simpa using hv) ?_ (fun j hj hlt => ?_)
    · rw [tab_getI hv, tab_getI (by omega)]
      unfold vsw
      simp only [id]
      rw [tau_at, tau_at1]; omega
    · rw [tab_getI (by omega), tab_getI (by omega)] at hlt
      unfold vsw tau at hlt
      simp only [id] at hlt
      repeat' split at hlt
      all_goals omega
  rw [spw_some hp hn hd]
  have : spw n (psw (vsw id v) v) = [] := by
    rw [← spw_id hn]
    refine spw_congr (fun j hj => ?_)
    unfold psw vsw
    simp only [id]
    exact tau_tau (n := n) (by omega)
  rw [this]
theorem fwd_pos {n v : Nat} (hn : n ≤ 6) (hv : v + 1 < n) (k : Int) (F : List (Nat → Nat)) : fwd n k (F ++ [vsw id v]) = fwd n k F ++ [(v : Int) + 1] := by
  unfold fwd
  rw [List.flatMap_append, ← List.append_assoc]
  congr 1
  simp [spw_let hn hv]
theorem fwd_neg {n v : Nat} (hn : n ≤ 6) (hv : v + 1 < n) {k : Int} {F : List (Nat → Nat)} (h : ∀ f ∈ F, IsP f n) : WE n (fwd n k F ++ [-((v : Int) + 1)]) (fwd n (k - 1) (F.map (trn n) ++ [vsw (hlf n) v])) := by
  have hh := spw_br hn (hlf_isP n)
  have hP := vsw_isP (hlf_isP n) hv
  have l1 : -((v : Int) + 1) ≠ 0 ∧ -((v : Int) + 1) < n ∧ -(n : Int) < -((v : Int) + 1) := by omega
  have l2 : ((v : Int) + 1) ≠ 0 ∧ ((v : Int) + 1) < n ∧ -(n : Int) < ((v : Int) + 1) := by omega
  -- the half twist is the factor and the letter
  have k1 := spw_last hn _ (vsw (hlf n) v) v (n - 1 - (v + 1)) (n - 1 - v) hP (Nat.le_refl _) (by omega) (by omega)
    (by unfold vsw hlf; rw [show n - 1 - (n - 1 - (v + 1)) = v + 1 by omega, tau_at1]) (by unfold vsw hlf; rw [show n - 1 - (n - 1 - v) = v by omega, tau_at])
  have e : spw n (vsw (vsw (hlf n) v) v) = spw n (hlf n) := spw_congr (fun j hj => by unfold vsw; rw [tau_tau (n := n) (by omega)])
  rw [e] at k1
  -- so the inverse letter is the inverse half twist and the factor
  have k2 : WE n [-((v : Int) + 1)] (invW (spw n (hlf n)) ++ spw n (vsw (hlf n) v)) := by
    refine WE.lcan hh ?_
    rw [← List.append_assoc]
    have a := WE.right [-((v : Int) + 1)] (brd_app (spw_br hn hP) (brd_one l2)) k1
    refine a.trans ?_
    rw [List.append_assoc]
    have b := WE.left (spw n (vsw (hlf n) v)) (spw_br hn hP) (WE.cancel (brd_one l2))
    rw [List.append_nil] at b
    refine WE.trans b ?_
    have c := WE.right (spw n (vsw (hlf n) v)) brd_nil (WE.cancel hh)
    rw [List.nil_append] at c
    exact c.symm
  refine (WE.left (fwd n k F) (fwd_brd hn h) k2).trans ?_
  rw [← List.append_assoc]
  refine (WE.right _ (fwd_brd hn (trn_all h)) (fwd_turn hn h)).trans ?_
  have : fwd n (k - 1) (F.map (trn n) ++ [vsw (hlf n) v]) = fwd n (k - 1) (F.map (trn n)) ++ spw n (vsw (hlf n) v) := by
    unfold fwd
    rw [List.flatMap_append, ← List.append_assoc]
    congr 1
    simp
  rw [this]
  exact WE.refl _
/-- a crossing goes from one factor to the one before it -/
theorem fwd_move {n c x y : Nat} (hn : n ≤ 6) {k : Int} {A B : List (Nat → Nat)} {a b : Nat → Nat} (hA : ∀ f ∈ A, IsP f n) (ha : IsP a n) (hb : IsP b n) (hB : ∀ f ∈ B, IsP f n) (hc : c + 1 < n) (hd : b (c + 1) < b c) (hxy : x < y) (hy : y < n) (hx1 : a x = c) (hy1 : a y = c + 1) :
    WE n (fwd n k (A ++ a :: b :: B)) (fwd n k (A ++ vsw a c :: psw b c :: B)) := by
  have k1 := spw_desc hn _ b c hb (Nat.le_refl _) hc hd
  have k2 := spw_last hn _ a c x y ha (Nat.le_refl _) hxy hy hx1 hy1
  have l1 : ((c : Int) + 1) ≠ 0 ∧ ((c : Int) + 1) < n ∧ -(n : Int) < ((c : Int) + 1) := by omega
  unfold fwd
  refine WE.left _ (dlt_brd hn k) ?_
  rw [List.flatMap_append, List.flatMap_append]
  refine WE.left _ (flat_brd hn hA) ?_
  simp only [List.flatMap_cons]
  rw [← List.append_assoc, ← List.append_assoc]
  refine WE.right _ (brd_app (spw_br hn (vsw_isP ha hc)) (spw_br hn (psw_isP hb hc))) ?_
  refine (WE.left _ (spw_br hn ha) k1).trans ?_
  rw [show spw n a ++ ((c : Int) + 1) :: spw n (psw b c) = (spw n a ++ [(c : Int) + 1]) ++ spw n (psw b c) by simp]
  exact WE.right _ (spw_br hn (vsw_isP ha hc)) k2.symm
/-- a half twist at the beginning -/
theorem fwd_twist {n : Nat} (hn : n ≤ 6) {k : Int} {F : List (Nat → Nat)} {f : Nat → Nat} (h : ∀ i, i < n → f i = hlf n i) (hF : ∀ g ∈ F, IsP g n) : WE n (fwd n k (f :: F)) (fwd n (k + 1) F) := by
  unfold fwd
  rw [List.flatMap_cons, spw_congr h, ← List.append_assoc]
  exact WE.right _ (dlt_brd hn _) (dlt_succ hn k)
end Go.Proofs.Ytgjfpmjllpgadaa
