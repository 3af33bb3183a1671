/- slices.EqualFunc at lists of lists, timblaw1.lists. No condition of its own. -/
import Derived.Test.YthacglggkgmbhaaGGroupOrbitsAU
import Derived.Test.YthacglggkgmbhaaGGroupOrbitsAN
import Derived.Test.YthacglggkgmbhaaGGroupOrbitsAS
set_option linter.unusedVariables false
set_option linter.unusedSimpArgs false
namespace Go.Proofs.Ythacglggkgmbhaa
open Go.RowKit

/-- a list of ints, as a value -/
def LF (b : Bool) (xs : List Int) : PV := .lst b 1 xs.length (ints xs)
theorem LF_cl (b : Bool) (xs : List Int) : (LF b xs).cl = true := by simp [LF, PV.cl, ints_cl]
theorem LFs_cl (b : Bool) (l : List (List Int)) : PV.cl.clL (l.map (LF b)) = true := clL_mem.2 (fun c hc => by obtain ⟨x, _, rfl⟩ := List.mem_map.1 hc; exact LF_cl b x)
theorem LF_nrm (b : Bool) (xs : List Int) : (LF b xs).nrm = pli xs := by
  unfold LF PV.nrm PV.nrm0
  rfl
set_option maxHeartbeats 2000000 in
set_option maxRecDepth 100000 in
theorem equalFuncG_s {b1 b2 c1 c2 : Bool} {us vs : List (List Int)} {f : FuncId} (hx : us.length ≤ 1000000000) (hy : vs.length ≤ 1000000000) (hf : ∀ x y : List Int, SC Try.prog f [pli x, pli y] (.sc (.bool (decide (x = y))))) :
    SC Try.prog 40 [.lst b1 1 us.length (us.map (LF c1)), .lst b2 1 vs.length (vs.map (LF c2)), .clo f []] (.sc (.bool (decide (us = vs)))) := by
  refine SC.go {} tok mixed Try.func40 rfl rfl Try.ntmps40 rfl rfl (by kernel_rfl) ?_
  first | simp only [updS] | simp only [updL, Nat.reduceAdd]
  by_cases hl : us.length = vs.length
  · repeat (first | refine S0 ?_ | refine S1 ?_ | refine S2 ?_ | refine S4 ?_ | refine S5 ?_ | refine S6 ?_ | refine S7 ?_ | refine S8 ?_ | refine S9 ?_ | refine S10 ?_ | refine S11 ?_ | refine S12 ?_ | refine S13 ?_ | refine S15 ?_ | refine S16 ?_ | refine S19 ?_ | refine S20 ?_ | refine S21 ?_ | refine S22 ?_ | refine S23 ?_ | refine S25 ?_ | refine S26 ?_ | refine S29 ?_ | refine S36 ?_)
    refine CW.loopS (fun k : Nat => k ≤ us.length ∧ us.take k = vs.take k) (fun k => [(1, .lst b2 1 vs.length (vs.map (LF c2))), (2, .clo f []), (15, .lst b1 1 us.length (us.map (LF c1))), (16, pint us.length), (17, pint k)]) (fun _ _ => True) (fun k => us.length - k) 0 ⟨⟨Nat.zero_le _, rfl⟩, SLx, trivial⟩ ?_
    rintro k t h ⟨hk, hg⟩ _
    first | simp only [updS] | simp only [updL, Nat.reduceAdd]
    by_cases hk2 : k < us.length
    · have hs : SC Try.prog f [LF c1 (us.getD k []), LF c2 (vs.getD k [])] (.sc (.bool (decide (us.getD k [] = vs.getD k [])))) := SC.weak (hf (us.getD k []) (vs.getD k [])) (by simp only [List.map_cons, List.map_nil, LF_nrm])
      by_cases he : us.getD k [] = vs.getD k []
      · rw [decide_eq_true he] at hs
        repeat (first | refine S0 ?_ | refine S1 ?_ | refine S2 ?_ | refine S4 ?_ | refine S5 ?_ | refine S6 ?_ | refine S7 ?_ | refine S8 ?_ | refine S9 ?_ | refine S10 ?_ | refine S11 ?_ | refine S12 ?_ | refine S13 ?_ | refine S15 ?_ | refine S16 ?_ | refine S19 ?_ | refine S20 ?_ | refine S21 ?_ | refine S22 ?_ | refine S23 ?_ | refine S25 ?_ | refine S26 ?_ | refine S29 ?_ | refine S36 ?_)
        refine Scallv (args := [LF c1 (us.getD k []), LF c2 (vs.getD k [])]) hs ?_ (hc := by simp only [PV.cl.clL, LF_cl]; rfl)
        repeat (first | refine S0 ?_ | refine S1 ?_ | refine S2 ?_ | refine S4 ?_ | refine S5 ?_ | refine S6 ?_ | refine S7 ?_ | refine S8 ?_ | refine S9 ?_ | refine S10 ?_ | refine S11 ?_ | refine S12 ?_ | refine S13 ?_ | refine S15 ?_ | refine S16 ?_ | refine S19 ?_ | refine S20 ?_ | refine S21 ?_ | refine S22 ?_ | refine S23 ?_ | refine S25 ?_ | refine S26 ?_ | refine S29 ?_ | refine S36 ?_)
        refine ⟨k + 1, ⟨by omega, ?_⟩, SLx, trivial, by omega⟩
        rw [getD_lt [] hk2, getD_lt [] (show k < vs.length by omega)] at he
        rw [List.take_succ_eq_append_getElem hk2, List.take_succ_eq_append_getElem (show k < vs.length by omega), hg, he]
      · rw [decide_eq_false he] at hs
        repeat (first | refine S0 ?_ | refine S1 ?_ | refine S2 ?_ | refine S4 ?_ | refine S5 ?_ | refine S6 ?_ | refine S7 ?_ | refine S8 ?_ | refine S9 ?_ | refine S10 ?_ | refine S11 ?_ | refine S12 ?_ | refine S13 ?_ | refine S15 ?_ | refine S16 ?_ | refine S19 ?_ | refine S20 ?_ | refine S21 ?_ | refine S22 ?_ | refine S23 ?_ | refine S25 ?_ | refine S26 ?_ | refine S29 ?_ | refine S36 ?_)
        refine Scallv (args := [LF c1 (us.getD k []), LF c2 (vs.getD k [])]) hs ?_ (hc := by simp only [PV.cl.clL, LF_cl]; rfl)
        repeat (first | refine S0 ?_ | refine S1 ?_ | refine S2 ?_ | refine S4 ?_ | refine S5 ?_ | refine S6 ?_ | refine S7 ?_ | refine S8 ?_ | refine S9 ?_ | refine S10 ?_ | refine S11 ?_ | refine S12 ?_ | refine S13 ?_ | refine S15 ?_ | refine S16 ?_ | refine S19 ?_ | refine S20 ?_ | refine S21 ?_ | refine S22 ?_ | refine S23 ?_ | refine S25 ?_ | refine S26 ?_ | refine S29 ?_ | refine S36 ?_)
        rw [show decide (us = vs) = false from decide_eq_false (fun e => he (by rw [e]))]
        exact ⟨.inr rfl, .cl rfl⟩
    · repeat (first | refine S0 ?_ | refine S1 ?_ | refine S2 ?_ | refine S4 ?_ | refine S5 ?_ | refine S6 ?_ | refine S7 ?_ | refine S8 ?_ | refine S9 ?_ | refine S10 ?_ | refine S11 ?_ | refine S12 ?_ | refine S13 ?_ | refine S15 ?_ | refine S16 ?_ | refine S19 ?_ | refine S20 ?_ | refine S21 ?_ | refine S22 ?_ | refine S23 ?_ | refine S25 ?_ | refine S26 ?_ | refine S29 ?_ | refine S36 ?_)
      have e : us = vs := by rw [List.take_of_length_le (by omega), List.take_of_length_le (by omega)] at hg; exact hg
      rw [show decide (us = vs) = true from decide_eq_true e]
      exact ⟨.inr rfl, .cl rfl⟩
  · repeat (first | refine S0 ?_ | refine S1 ?_ | refine S2 ?_ | refine S4 ?_ | refine S5 ?_ | refine S6 ?_ | refine S7 ?_ | refine S8 ?_ | refine S9 ?_ | refine S10 ?_ | refine S11 ?_ | refine S12 ?_ | refine S13 ?_ | refine S15 ?_ | refine S16 ?_ | refine S19 ?_ | refine S20 ?_ | refine S21 ?_ | refine S22 ?_ | refine S23 ?_ | refine S25 ?_ | refine S26 ?_ | refine S29 ?_ | refine S36 ?_)
    rw [show decide (us = vs) = false from decide_eq_false (fun e => hl (by rw [e]))]
    exact ⟨.inr rfl, .cl rfl⟩
set_option maxHeartbeats 1000000 in
set_option maxRecDepth 100000 in
theorem lists1_s (a b : List Int) : SC Try.prog 41 [pli a, pli b] (.sc (.bool (decide (a = b)))) := by
  refine SC.go {} tok mixed Try.func41 rfl rfl Try.ntmps41 rfl rfl (by kernel_rfl) ?_
  first | simp only [updS] | simp only [updL, Nat.reduceAdd]
  repeat (first | refine S0 ?_ | refine S1 ?_ | refine S2 ?_ | refine S4 ?_ | refine S5 ?_ | refine S6 ?_ | refine S7 ?_ | refine S8 ?_ | refine S9 ?_ | refine S10 ?_ | refine S11 ?_ | refine S12 ?_ | refine S13 ?_ | refine S15 ?_ | refine S16 ?_ | refine S19 ?_ | refine S20 ?_ | refine S21 ?_ | refine S22 ?_ | refine S23 ?_ | refine S25 ?_ | refine S26 ?_ | refine S29 ?_ | refine S36 ?_)
  refine Scall (args := [pli a, pli b]) (equal_s a b) ?_
  repeat (first | refine S0 ?_ | refine S1 ?_ | refine S2 ?_ | refine S4 ?_ | refine S5 ?_ | refine S6 ?_ | refine S7 ?_ | refine S8 ?_ | refine S9 ?_ | refine S10 ?_ | refine S11 ?_ | refine S12 ?_ | refine S13 ?_ | refine S15 ?_ | refine S16 ?_ | refine S19 ?_ | refine S20 ?_ | refine S21 ?_ | refine S22 ?_ | refine S23 ?_ | refine S25 ?_ | refine S26 ?_ | refine S29 ?_ | refine S36 ?_)
  exact ⟨.inr rfl, .cl rfl⟩
set_option maxHeartbeats 1000000 in
set_option maxRecDepth 100000 in
theorem lists_g {b1 b2 c1 c2 : Bool} {a b : List (List Int)} (ha : a.length ≤ 1000000000) (hb : b.length ≤ 1000000000) : SC Try.prog 23 [.lst b1 1 a.length (a.map (LF c1)), .lst b2 1 b.length (b.map (LF c2))] (.sc (.bool (decide (a = b)))) := by
  have hE := equalFuncG_s (b1 := b1) (b2 := b2) (c1 := c1) (c2 := c2) ha hb lists1_s
  refine SC.go {} tok mixed Try.func23 rfl rfl Try.ntmps23 rfl rfl (by kernel_rfl) ?_
  first | simp only [updS] | simp only [updL, Nat.reduceAdd]
  repeat (first | refine S0 ?_ | refine S1 ?_ | refine S2 ?_ | refine S4 ?_ | refine S5 ?_ | refine S6 ?_ | refine S7 ?_ | refine S8 ?_ | refine S9 ?_ | refine S10 ?_ | refine S11 ?_ | refine S12 ?_ | refine S13 ?_ | refine S15 ?_ | refine S16 ?_ | refine S19 ?_ | refine S20 ?_ | refine S21 ?_ | refine S22 ?_ | refine S23 ?_ | refine S25 ?_ | refine S26 ?_ | refine S29 ?_ | refine S36 ?_)
  refine Scall (args := [.lst b1 1 a.length (a.map (LF c1)), .lst b2 1 b.length (b.map (LF c2)), .clo 41 []]) hE ?_ (hc := by simp only [PV.cl.clL, PV.cl, LFs_cl]; rfl)
  repeat (first | refine S0 ?_ | refine S1 ?_ | refine S2 ?_ | refine S4 ?_ | refine S5 ?_ | refine S6 ?_ | refine S7 ?_ | refine S8 ?_ | refine S9 ?_ | refine S10 ?_ | refine S11 ?_ | refine S12 ?_ | refine S13 ?_ | refine S15 ?_ | refine S16 ?_ | refine S19 ?_ | refine S20 ?_ | refine S21 ?_ | refine S22 ?_ | refine S23 ?_ | refine S25 ?_ | refine S26 ?_ | refine S29 ?_ | refine S36 ?_)
  exact ⟨.inr rfl, .cl rfl⟩
end Go.Proofs.Ythacglggkgmbhaa

/-
  The cycles of a permutation, as the program finds them. Plain facts: nothing of the program is here.
-/
set_option linter.unusedVariables false
set_option linter.unusedSimpArgs false
namespace Go.Proofs.Ythacglggkgmbhaa

def mark (D : Nat → Bool) (x : Nat) : Nat → Bool := fun j => if j = x then true else D j
/-- From x on, along xs, till an index that is marked. -/
def wk (xs : List Int) : Nat → Nat → (Nat → Bool) → List Int → List Int × (Nat → Bool)
  | 0, _, D, c => (c, D)
  | f + 1, x, D, c => if D x then (c, D) else wk xs f (xs.getD x 0).toNat (mark D x) (c ++ [(x : Int)])
def freeN (D : Nat → Bool) : Nat → Nat
  | 0 => 0
  | n + 1 => freeN D n + if D n then 0 else 1

theorem freeN_le (D : Nat → Bool) : ∀ n, freeN D n ≤ n
  | 0 => Nat.le_refl _
  | n + 1 => by have := freeN_le D n; simp only [freeN]; split <;> omega
theorem freeN_mark_ge {D : Nat → Bool} {x : Nat} : ∀ n, n ≤ x → freeN (mark D x) n = freeN D n
  | 0, _ => rfl
  | n + 1, h => by
    have := freeN_mark_ge (D := D) (x := x) n (by omega)
    simp only [freeN, this]
    have e : mark D x n = D n := by unfold mark; rw [if_neg (by omega)]
    rw [e]
theorem freeN_mark {D : Nat → Bool} {x : Nat} (hD : D x = false) : ∀ n, x < n → freeN (mark D x) n + 1 = freeN D n
  | 0, h => absurd h (by omega)
  | n + 1, h => by
    by_cases e : x = n
    · subst e
      have := freeN_mark_ge (D := D) (x := x) x (Nat.le_refl _)
      simp [freeN, this, hD, mark]
    · have := freeN_mark hD n (by omega)
      have e' : mark D x n = D n := by unfold mark; rw [if_neg (by omega)]
      simp only [freeN, e']
      omega
theorem freeN_pos {D : Nat → Bool} {x n : Nat} (hD : D x = false) (hx : x < n) : 0 < freeN D n := by
  have := freeN_mark hD n hx; omega

def InRange (xs : List Int) : Prop := ∀ i, i < xs.length → 0 ≤ xs.getD i 0 ∧ xs.getD i 0 < xs.length

theorem wk_enough {xs : List Int} (hr : InRange xs) : ∀ (f f' x : Nat) (D : Nat → Bool) (c : List Int), x < xs.length → freeN D xs.length ≤ f → freeN D xs.length ≤ f' → wk xs f x D c = wk xs f' x D c
  | 0, f', x, D, c, hx, h, h' => by
    have hD : D x = true := by
      cases hD : D x
      · have := freeN_pos hD hx; omega
      · rfl
    cases f' <;> simp [wk, hD]
  | f + 1, f', x, D, c, hx, h, h' => by
    cases hD : D x
    · have hp := freeN_pos hD hx
      have hm := freeN_mark hD xs.length hx
      obtain ⟨f'', rfl⟩ : ∃ f'', f' = f'' + 1 := ⟨f' - 1, by omega⟩
      simp only [wk, hD]
      have h2 := hr x hx
      exact wk_enough hr f f'' _ _ _ (by omega) (by omega) (by omega)
    · cases f' <;> simp [wk, hD]

/-- After k rounds: the cycles that were found, and what is marked. -/
def cycAt (xs : List Int) : Nat → List (List Int) × (Nat → Bool)
  | 0 => ([], fun _ => false)
  | k + 1 =>
    let r := wk xs xs.length k (cycAt xs k).2 []
    (if r.1 = [] then (cycAt xs k).1 else (cycAt xs k).1 ++ [r.1], r.2)
def cyclesOf (xs : List Int) : List (List Int) := (cycAt xs xs.length).1

/-- What a round of the inner loop has come to: c so far, D marked, x next; R at the end. -/
structure Wk (xs : List Int) (x : Nat) (D : Nat → Bool) (c : List Int) (R : List Int × (Nat → Bool)) : Prop where
  hx : x < xs.length
  all : ∀ i, i < c.length → 0 ≤ c.getD i 0 ∧ c.getD i 0 < xs.length
  len : c.length + freeN D xs.length ≤ xs.length
  fin : ∀ f, freeN D xs.length ≤ f → wk xs f x D c = R

theorem Wk.start {xs : List Int} (hr : InRange xs) {k : Nat} (hk : k < xs.length) (D : Nat → Bool) : Wk xs k D [] (wk xs xs.length k D []) :=
  ⟨hk, by simp, by simpa using freeN_le D _, fun f hf => wk_enough hr f _ k D [] hk hf (freeN_le D _)⟩
theorem Wk.done {xs : List Int} {x : Nat} {D : Nat → Bool} {c : List Int} {R} (h : Wk xs x D c R) (hD : D x = true) : R = (c, D) := by
  rw [← h.fin (freeN D xs.length + 1) (by omega)]
  simp [wk, hD]
theorem Wk.step {xs : List Int} (hr : InRange xs) {x : Nat} {D : Nat → Bool} {c : List Int} {R} (h : Wk xs x D c R) (hD : D x = false) :
    Wk xs (xs.getD x 0).toNat (mark D x) (c ++ [(x : Int)]) R ∧ freeN (mark D x) xs.length < freeN D xs.length := by
  have hx := h.hx
  have hm := freeN_mark hD xs.length hx
  have h2 := hr x hx
  refine ⟨⟨by omega, ?_, ?_, ?_⟩, by omega⟩
  · intro i hi
    by_cases e : i < c.length
    · have := h.all i e
      simpa [List.getD, List.getElem?_append_left e] using this
    · obtain rfl : i = c.length := by simp at hi; omega
      simp [List.getD]; omega
  · have := h.len
    simp; omega
  · intro f hf
    have := h.fin (f + 1) (by omega)
    simpa [wk, hD] using this

theorem cycAt_succ_some {xs : List Int} {k : Nat} {c : List Int} {D : Nat → Bool} (h : wk xs xs.length k (cycAt xs k).2 [] = (c, D)) (hc : c ≠ []) : cycAt xs (k + 1) = ((cycAt xs k).1 ++ [c], D) := by
  simp only [cycAt, h]; rw [if_neg hc]
theorem cycAt_succ_none {xs : List Int} {k : Nat} {c : List Int} {D : Nat → Bool} (h : wk xs xs.length k (cycAt xs k).2 [] = (c, D)) (hc : c = []) : cycAt xs (k + 1) = ((cycAt xs k).1, D) := by
  simp only [cycAt, h]; rw [if_pos hc]

theorem wk_len {xs : List Int} (hr : InRange xs) : ∀ (f x : Nat) (D : Nat → Bool) (c : List Int), x < xs.length → c.length + freeN D xs.length ≤ xs.length → (wk xs f x D c).1.length ≤ xs.length
  | 0, x, D, c, hx, h => by simp only [wk]; omega
  | f + 1, x, D, c, hx, h => by
    cases hD : D x
    · have hm := freeN_mark hD xs.length hx
      have h2 := hr x hx
      simp only [wk, hD]
      exact wk_len hr f _ _ _ (by omega) (by simp; omega)
    · simp [wk, hD]; omega
theorem cycAt_lens {xs : List Int} (hr : InRange xs) : ∀ k, k ≤ xs.length → ∀ c ∈ (cycAt xs k).1, 1 ≤ c.length ∧ c.length ≤ xs.length
  | 0, _ => by simp [cycAt]
  | k + 1, hk => by
    have ih := cycAt_lens hr k (by omega)
    have hl := wk_len hr xs.length k (cycAt xs k).2 [] (by omega) (by simpa using freeN_le _ _)
    intro c hc
    simp only [cycAt] at hc
    split at hc
    · exact ih c hc
    · rename_i hne
      rcases List.mem_append.1 hc with h | h
      · exact ih c h
      · simp at h
        subst h
        exact ⟨List.length_pos_iff.2 hne, hl⟩
theorem cyclesOf_lens {xs : List Int} (hr : InRange xs) : ∀ c ∈ cyclesOf xs, 1 ≤ c.length ∧ c.length ≤ xs.length := cycAt_lens hr _ (Nat.le_refl _)

/-- The order, as the program reckons it: after the first k cycles. -/
def ordAt (cs : List (List Int)) : Nat → Nat
  | 0 => 1
  | k + 1 => ordAt cs k / Nat.gcd (ordAt cs k) (cs.getD k []).length * (cs.getD k []).length
def orderOf (xs : List Int) : Nat := ordAt (cyclesOf xs) (cyclesOf xs).length

theorem ord_step_lcm {o l : Nat} : o / Nat.gcd o l * l = Nat.lcm o l := by
  unfold Nat.lcm
  rw [Nat.mul_comm o l, Nat.mul_div_assoc l (Nat.gcd_dvd_left o l), Nat.mul_comm]
theorem ordAt_dvd {cs : List (List Int)} (h : ∀ c ∈ cs, 1 ≤ c.length ∧ c.length ≤ 9) : ∀ k, k ≤ cs.length → ordAt cs k ∣ 2520
  | 0, _ => ⟨2520, by simp [ordAt]⟩
  | k + 1, hk => by
    have ih := ordAt_dvd h k (by omega)
    simp only [ordAt]
    rw [ord_step_lcm]
    refine Nat.lcm_dvd ih ?_
    rw [getD_lt [] (by omega : k < cs.length)]
    obtain ⟨h1, h2⟩ := h _ (List.getElem_mem (h := (by omega : k < cs.length)))
    generalize cs[k].length = l at h1 h2
    match l, h1, h2 with
    | 1, _, _ => decide
    | 2, _, _ => decide
    | 3, _, _ => decide
    | 4, _, _ => decide
    | 5, _, _ => decide
    | 6, _, _ => decide
    | 7, _, _ => decide
    | 8, _, _ => decide
    | 9, _, _ => decide
theorem ordAt_bd {cs : List (List Int)} (h : ∀ c ∈ cs, 1 ≤ c.length ∧ c.length ≤ 9) (k : Nat) (hk : k ≤ cs.length) : 1 ≤ ordAt cs k ∧ ordAt cs k ≤ 2520 := by
  have h1 := ordAt_dvd h k hk
  exact ⟨Nat.pos_of_dvd_of_pos h1 (by decide), Nat.le_of_dvd (by decide) h1⟩

end Go.Proofs.Ythacglggkgmbhaa
