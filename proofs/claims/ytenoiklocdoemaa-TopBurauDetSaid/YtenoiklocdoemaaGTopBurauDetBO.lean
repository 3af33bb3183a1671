/- Braids: the permutation, the exponent sum, the inverse. No condition of its own. -/
import Derived.Test.YtenoiklocdoemaaGTopBurauDetBL
import Derived.Test.YtenoiklocdoemaaGTopBurauDetBJ
import Derived.Test.YtenoiklocdoemaaGTopBurauDetBN
set_option linter.unusedVariables false
set_option linter.unusedSimpArgs false
namespace Go.Proofs.Ytenoiklocdoemaa
open Go.RowKit

/-- what a letter of size i does to a place -/
def tau (i j : Nat) : Nat := if j + 1 = i then i else if j = i then i - 1 else j
def ltr (x : Int) : Nat := (absI x).toNat
/-- where a strand is after the letters; which strand is at a place -/
def eAt (w : List Int) : Nat → Nat → Nat
  | 0, s => s
  | k + 1, s => tau (ltr (w.getD k 0)) (eAt w k s)
def fAt (w : List Int) : Nat → Nat → Nat
  | 0, j => j
  | k + 1, j => fAt w k (tau (ltr (w.getD k 0)) j)
structure Wd (n : Nat) (w : List Int) : Prop where
  n9 : n ≤ 6
  len : w.length ≤ 30
  lt : ∀ k, k < w.length → letP n (w.getD k 0)
theorem Wd.of {n : Int} {w : List Int} (h : bF n w = 0) : ∃ m : Nat, n = (m : Int) ∧ 1 ≤ m ∧ Wd m w := by
  obtain ⟨h1, h2, h3⟩ := bF_ok h
  refine ⟨n.toNat, by omega, by omega, by omega, h2, fun k hk => ?_⟩
  rw [show ((n.toNat : Nat) : Int) = n by omega]
  exact h3 _ (by rw [getD_lt 0 hk]; exact List.getElem_mem hk)
theorem Wd.ltr {n : Nat} {w : List Int} (h : Wd n w) {k : Nat} (hk : k < w.length) : 1 ≤ ltr (w.getD k 0) ∧ ltr (w.getD k 0) < n ∧ ((ltr (w.getD k 0) : Nat) : Int) = absI (w.getD k 0) := by
  have := abs_let (h.lt k hk) (by have := h.n9; omega)
  unfold Go.Proofs.Ytenoiklocdoemaa.ltr; omega
end Go.Proofs.Ytenoiklocdoemaa

/- Braids: sums of exponents. No condition of its own. -/
set_option linter.unusedVariables false
set_option linter.unusedSimpArgs false
namespace Go.Proofs.Ytenoiklocdoemaa
open Go.RowKit

def sumTo (w : List Int) : Nat → Int
  | 0 => 0
  | k + 1 => sumTo w k + sgI (w.getD k 0)
theorem sumTo_bd (w : List Int) : ∀ k : Nat, -(k : Int) ≤ sumTo w k ∧ sumTo w k ≤ k
  | 0 => by simp [sumTo]
  | k + 1 => by have := sumTo_bd w k; simp only [sumTo]; unfold sgI; split <;> omega
set_option maxHeartbeats 2000000 in
set_option maxRecDepth 100000 in
theorem bsum_s {n : Nat} {w : List Int} (h : Wd n w) : SC Try.prog 41 [pli w] (pint (sumTo w w.length)) := by
  refine SC.go {} tok mixed Try.func41 rfl rfl Try.ntmps41 rfl rfl (by kernel_rfl) ?_
  first | simp only [updS] | simp only [updL, Nat.reduceAdd]
  have h6 := h.n9
  have hlw := h.len
  repeat (first | refine S0 ?_ | refine S1 ?_ | refine S2 ?_ | refine S4 ?_ | refine S5 ?_ | refine S6 ?_ | refine S7 ?_ | refine S8 ?_ | refine S10 ?_ | refine S11 ?_ | refine S13 ?_ | refine S15 ?_ | refine S16 ?_ | refine S19 ?_ | refine S20 ?_ | refine S21 ?_ | refine S22 ?_ | refine S23 ?_ | refine S25 ?_ | refine S26 ?_ | refine S29 ?_ | refine S52 ?_ | refine S75 ?_)
  refine CW.loopS (fun k : Nat => k ≤ w.length) (fun k => [(3, pint (sumTo w k)), (6, pli w), (7, pint w.length), (8, pint k)]) (fun _ _ => True) (fun k => w.length - k) 0 ⟨by omega, SLx, trivial⟩ ?_
  rintro k t hp hk _
  first | simp only [updS] | simp only [updL, Nat.reduceAdd]
  by_cases hk2 : k < w.length
  · have hx := abs_let (h.lt k hk2) (by omega)
    have hb := sumTo_bd w k
    have hs : sumTo w (k + 1) = sumTo w k + sgI (w.getD k 0) := rfl
    obtain ⟨hne, _, _⟩ := h.lt k hk2
    have hX := bindex_s (w.getD k 0) (by omega)
    generalize sumTo w k = S at *
    by_cases c : 0 < w.getD k 0
    · have hv : absI (w.getD k 0) = w.getD k 0 := by omega
      have hq : w.getD k 0 / w.getD k 0 = 1 := Int.ediv_self hne
      have hg : sgI (w.getD k 0) = 1 := by unfold sgI; rw [if_pos c]
      rw [hg] at hs
      rw [hv] at hX
      repeat (first | refine S0 ?_ | refine S1 ?_ | refine S2 ?_ | refine S4 ?_ | refine S5 ?_ | refine S6 ?_ | refine S7 ?_ | refine S8 ?_ | refine S10 ?_ | refine S11 ?_ | refine S13 ?_ | refine S15 ?_ | refine S16 ?_ | refine S19 ?_ | refine S20 ?_ | refine S21 ?_ | refine S22 ?_ | refine S23 ?_ | refine S25 ?_ | refine S26 ?_ | refine S29 ?_ | refine S52 ?_ | refine S75 ?_)
      refine Scall (args := [pint (w.getD k 0)]) hX ?_
      repeat (first | refine S0 ?_ | refine S1 ?_ | refine S2 ?_ | refine S4 ?_ | refine S5 ?_ | refine S6 ?_ | refine S7 ?_ | refine S8 ?_ | refine S10 ?_ | refine S11 ?_ | refine S13 ?_ | refine S15 ?_ | refine S16 ?_ | refine S19 ?_ | refine S20 ?_ | refine S21 ?_ | refine S22 ?_ | refine S23 ?_ | refine S25 ?_ | refine S26 ?_ | refine S29 ?_ | refine S52 ?_ | refine S75 ?_)
      rw [hq]
      exact ⟨k + 1, by omega, by rw [hs]; exact SLx, trivial, by omega⟩
    · have hv : absI (w.getD k 0) = -(w.getD k 0) := by omega
      have hq : (w.getD k 0).tdiv (-(w.getD k 0)) = -1 := by rw [Int.tdiv_neg, Int.tdiv_self hne]
      have hg : sgI (w.getD k 0) = -1 := by unfold sgI; rw [if_neg c]
      rw [hg] at hs
      rw [hv] at hX
      repeat (first | refine S0 ?_ | refine S1 ?_ | refine S2 ?_ | refine S4 ?_ | refine S5 ?_ | refine S6 ?_ | refine S7 ?_ | refine S8 ?_ | refine S10 ?_ | refine S11 ?_ | refine S13 ?_ | refine S15 ?_ | refine S16 ?_ | refine S19 ?_ | refine S20 ?_ | refine S21 ?_ | refine S22 ?_ | refine S23 ?_ | refine S25 ?_ | refine S26 ?_ | refine S29 ?_ | refine S52 ?_ | refine S75 ?_)
      refine Scall (args := [pint (w.getD k 0)]) hX ?_
      repeat (first | refine S0 ?_ | refine S1 ?_ | refine S2 ?_ | refine S4 ?_ | refine S5 ?_ | refine S6 ?_ | refine S7 ?_ | refine S8 ?_ | refine S10 ?_ | refine S11 ?_ | refine S13 ?_ | refine S15 ?_ | refine S16 ?_ | refine S19 ?_ | refine S20 ?_ | refine S21 ?_ | refine S22 ?_ | refine S23 ?_ | refine S25 ?_ | refine S26 ?_ | refine S29 ?_ | refine S52 ?_ | refine S75 ?_)
      rw [hq]
      exact ⟨k + 1, by omega, by rw [hs]; exact SLx, trivial, by omega⟩
  · obtain rfl : k = w.length := by omega
    repeat (first | refine S0 ?_ | refine S1 ?_ | refine S2 ?_ | refine S4 ?_ | refine S5 ?_ | refine S6 ?_ | refine S7 ?_ | refine S8 ?_ | refine S10 ?_ | refine S11 ?_ | refine S13 ?_ | refine S15 ?_ | refine S16 ?_ | refine S19 ?_ | refine S20 ?_ | refine S21 ?_ | refine S22 ?_ | refine S23 ?_ | refine S25 ?_ | refine S26 ?_ | refine S29 ?_ | refine S52 ?_ | refine S75 ?_)
    exact ⟨.inr rfl, .cl rfl⟩
set_option maxHeartbeats 2000000 in
set_option maxRecDepth 100000 in
theorem esum_ok {n : Nat} {w : List Int} (h : Wd n w) (h0 : bF n w = 0) : SC Try.prog 19 [pint n, pli w] (.tup [pint (sumTo w w.length), pint 0]) := by
  refine SC.go {} tok mixed Try.func19 rfl rfl Try.ntmps19 rfl rfl (by kernel_rfl) ?_
  first | simp only [updS] | simp only [updL, Nat.reduceAdd]
  have hC := bcheck_s n w
  rw [h0] at hC
  have hS := bsum_s h
  repeat (first | refine S0 ?_ | refine S1 ?_ | refine S2 ?_ | refine S4 ?_ | refine S5 ?_ | refine S6 ?_ | refine S7 ?_ | refine S8 ?_ | refine S10 ?_ | refine S11 ?_ | refine S13 ?_ | refine S15 ?_ | refine S16 ?_ | refine S19 ?_ | refine S20 ?_ | refine S21 ?_ | refine S22 ?_ | refine S23 ?_ | refine S25 ?_ | refine S26 ?_ | refine S29 ?_ | refine S52 ?_ | refine S75 ?_)
  refine Scall (args := [pint n, pli w]) hC ?_
  repeat (first | refine S0 ?_ | refine S1 ?_ | refine S2 ?_ | refine S4 ?_ | refine S5 ?_ | refine S6 ?_ | refine S7 ?_ | refine S8 ?_ | refine S10 ?_ | refine S11 ?_ | refine S13 ?_ | refine S15 ?_ | refine S16 ?_ | refine S19 ?_ | refine S20 ?_ | refine S21 ?_ | refine S22 ?_ | refine S23 ?_ | refine S25 ?_ | refine S26 ?_ | refine S29 ?_ | refine S52 ?_ | refine S75 ?_)
  refine Scall (args := [pli w]) hS ?_
  repeat (first | refine S0 ?_ | refine S1 ?_ | refine S2 ?_ | refine S4 ?_ | refine S5 ?_ | refine S6 ?_ | refine S7 ?_ | refine S8 ?_ | refine S10 ?_ | refine S11 ?_ | refine S13 ?_ | refine S15 ?_ | refine S16 ?_ | refine S19 ?_ | refine S20 ?_ | refine S21 ?_ | refine S22 ?_ | refine S23 ?_ | refine S25 ?_ | refine S26 ?_ | refine S29 ?_ | refine S52 ?_ | refine S75 ?_)
  exact ⟨.inr rfl, Fz.pair (.cl rfl) (.cl rfl)⟩
end Go.Proofs.Ytenoiklocdoemaa

/- The determinant of a Burau matrix, as polymatrix.Det sees it. Plain facts: nothing of the program is here. -/
set_option linter.unusedVariables false
set_option linter.unusedSimpArgs false
namespace Go.Proofs.Ytenoiklocdoemaa
open Go.RowKit

theorem fstE_all {α : Type} {F : α → Int} : ∀ {l : List α}, (∀ x ∈ l, F x = 0) → fstE F l = 0
  | [], _ => rfl
  | x :: l, h => by
    unfold fstE
    rw [if_pos (h x (by simp))]
    exact fstE_all (fun y hy => h y (by simp [hy]))
theorem coef_in {a : LP} {B : Nat} (h : Nb B a) (hB : B ≤ 1000000) : ∀ x ∈ (poW a).2, -(B : Int) ≤ x ∧ x ≤ B := fun x hx => by
  obtain ⟨k, hk, rfl⟩ := List.mem_iff_getElem.1 hx
  have h1 := poW_co a ((poW a).1 + k)
  have h2 := h ((poW a).1 + k)
  rw [co_at, getD_lt 0 hk, wrp_in (by unfold in64; omega)] at h1
  omega
theorem lpo_poW_eq {a : LP} (h : ∀ e, in64 (a.f e)) : lpo (poW a) = a := LP.ext fun e => (poW_co a e).trans (wrp_in (h e))
theorem elF_bur {a : LP} (h1 : Sup 9 a) (h2 : Nb 1000 a) : elF (poW a) = 0 := by
  have hb := poW_bd h1 (by omega)
  have hc := coef_in h2 (by omega)
  have hl : (poW a).2.length ≤ 19 := by omega
  have hp : pF (poW a) = 0 := pF_all (by omega) (poW_canon a) (fun k hk => by
    have := hc ((poW a).2.getD k 0) (by rw [getD_lt 0 hk]; exact List.getElem_mem hk)
    unfold okc; omega)
  unfold elF
  rw [if_neg (fun hh => hh hp), if_neg (by omega), if_pos]
  intro x hx
  have := hc x hx
  unfold okK; omega
theorem wS_snoc (w : List Int) (x : Int) : wS (w ++ [x]) = wS w + sgJ x := by unfold wS; simp
theorem sum_wS (w : List Int) : ∀ k, k ≤ w.length → sumTo w k = wS (w.take k)
  | 0, _ => by simp [sumTo, wS]
  | k + 1, hk => by
    rw [List.take_add_one, List.getElem?_eq_getElem (by omega)]
    show _ = wS (w.take k ++ [w[k]])
    rw [wS_snoc, ← sum_wS w k (by omega)]
    show sumTo w k + sgI (w.getD k 0) = _
    rw [getD_lt 0 (by omega)]; rfl
theorem wS_par (w : List Int) : wS w % 2 = ((w.length : Nat) : Int) % 2 := by
  induction w with
  | nil => rfl
  | cons x w ih =>
    have e : wS (x :: w) = sgJ x + wS w := by unfold wS; simp
    have e2 : sgJ x = 1 ∨ sgJ x = -1 := by unfold sgJ; split <;> simp
    rw [e, List.length_cons]
    rcases e2 with e2 | e2 <;> rw [e2] <;> omega
theorem sgn_wS (w : List Int) : sgn w.length = 1 - 2 * (wS w % 2) := by
  have := wS_par w
  unfold sgn
  split <;> omega
theorem poW_mono1 (k e : Int) (hk : k = 1 ∨ k = -1) : poW (LP.mono k e) = (e, [k]) := by
  have h0 : k ≠ 0 := by omega
  refine cano_eq (.inr ⟨by simp, by simpa using h0, by simpa using h0⟩) (fun x => ?_)
  rw [LP.mono_f]
  by_cases h : x = e
  · subst h
    rw [if_pos rfl, wrp_in (by unfold in64; omega)]
    simpa using co_at (x, [k]) 0
  · rw [if_neg h]
    by_cases h2 : x < e
    · rw [co_lo (by simpa using h2)]; rfl
    · rw [co_hi (by simp; omega)]; rfl
/-- the determinant is what the exponent sum says -/
theorem det_ok {N : Nat} {x : List Int} (hN : N ≤ 4) (hl : x.length ≤ 9) (hw : ∀ y ∈ x, 1 ≤ y.natAbs ∧ y.natAbs < N) :
    detP ((List.range N).map (rowP (burM x) N)) = (wS x, [sgn x.length]) ∧ detE ((List.range N).map (rowP (burM x) N)) = 0 := by
  have hs : ∀ r c, Sup 9 (burM x r c) := fun r c => (burM_sup x r c).mono (by omega)
  have hn : ∀ r c, c < N → Nb 1000 (burM x r c) := fun r c hc => burM_nb hl (fun y hy => by have := hw y hy; omega) r c (by omega)
  obtain ⟨m, hm⟩ : ∃ m, m = (List.range N).map (rowP (burM x) N) := ⟨_, rfl⟩
  have hml : m.length = N := by rw [hm]; simp
  have hmg : ∀ r, r < N → m.getD r [] = rowP (burM x) N r := fun r hr => by rw [hm]; simp [List.getD, hr]
  have hsq : sqF m = 0 := by
    unfold sqF
    rw [if_neg (by omega)]
    refine fstE_all (fun r hr => ?_)
    rw [hm] at hr
    obtain ⟨i, hi, rfl⟩ := List.mem_map.1 hr
    unfold rowE
    rw [if_neg (by rw [rowP_len, hml]; simp)]
    refine fstE_all (fun p hp => ?_)
    obtain ⟨c, hc, rfl⟩ := List.mem_map.1 hp
    exact elF_bur (hs _ _) (hn _ _ (List.mem_range.1 hc))
  have hd : dP m = (wS x, [sgn x.length]) := by
    unfold dP
    rw [hml, lapP_congr (M' := burM x) (List.range N) (List.range N) (fun r c hr hc => ?_), det_bur x.length x rfl hw, poW_mono1 _ _ (by unfold sgn; split <;> omega)]
    have hr := List.mem_range.1 hr
    have hc := List.mem_range.1 hc
    unfold mM
    rw [hmg r hr, rowP_get _ hc]
    exact lpo_poW_eq (fun e => by have := hn r c hc e; unfold in64; omega)
  have hws : -9 ≤ wS x ∧ wS x ≤ 9 := by
    have h1 := sumTo_bd x x.length
    rw [sum_wS x _ (Nat.le_refl _), List.take_length] at h1
    omega
  have hpf : pF (dP m) = 0 := by
    rw [hd]
    have h0 : sgn x.length = 1 ∨ sgn x.length = -1 := by unfold sgn; split <;> simp
    refine pF_all (by simp; omega) (.inr ⟨by simp, by simp; omega, by simp; omega⟩) (fun k hk => ?_)
    have : k = 0 := by simp at hk; omega
    subst this
    show okc (sgn x.length)
    unfold okc; omega
  rw [← hm]
  unfold detP detE
  rw [if_pos hsq, if_pos hsq, if_pos hpf, if_pos hpf, hd]
  exact ⟨rfl, rfl⟩
theorem bits_andS : ∀ b : Fin 19, IntKind.i64.wrap ((BitVec.ofInt IntKind.i64.bits (((b.val : Nat) : Int) - 9) &&& BitVec.ofInt IntKind.i64.bits 1).toNat : Int) = (((b.val : Nat) : Int) - 9) % 2 := by decide +kernel
theorem bin_andS (s : Int) (h : -9 ≤ s ∧ s ≤ 9) (t : TypeId) (x y : Operand) (w : World) : (do eqGuard .and t x y (.int .i64 s) (.int .i64 1); binOp .and t (.int .i64 s) (.int .i64 1) : Sem Value).run Try.prog w = .ok (.int .i64 (s % 2)) w := by
  have h1 : (eqGuard .and t x y (.int .i64 s) (.int .i64 1)).run Try.prog w = .ok () w := rfl
  rw [Sem.run_bind, h1]
  show Result.ok (Value.int .i64 (IntKind.i64.wrap ((BitVec.ofInt IntKind.i64.bits s &&& BitVec.ofInt IntKind.i64.bits 1).toNat : Int))) w = _
  obtain ⟨b, hb, rfl⟩ : ∃ b : Nat, b < 19 ∧ s = (b : Int) - 9 := ⟨(s + 9).toNat, by omega, by omega⟩
  rw [bits_andS ⟨b, hb⟩]
end Go.Proofs.Ytenoiklocdoemaa
