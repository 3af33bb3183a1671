/- timbref1.Permutations: it calls its function for all permutations, one after the other. No condition of its own. -/
import Derived.Test.YtenoiklocdoemaaGAlexanderMinorsBH
import Derived.Test.YtenoiklocdoemaaGAlexanderMinorsBL
import Derived.Test.YtenoiklocdoemaaGAlexanderMinorsAZ
set_option linter.unusedVariables false
set_option linter.unusedSimpArgs false
namespace Go.Proofs.Ytenoiklocdoemaa
open Go.RowKit

/-- numbers as a value -/
def pnat (q : List Nat) : List Int := q.map fun x : Nat => (x : Int)
@[simp] theorem pnat_len (q : List Nat) : (pnat q).length = q.length := by simp [pnat]
theorem pnat_app (p q : List Nat) : pnat (p ++ q) = pnat p ++ pnat q := by simp [pnat]
/-- a permutation of the numbers below n -/
structure Good (n : Nat) (q : List Nat) : Prop where
  len : q.length = n
  lt : ∀ x ∈ q, x < n
  nd : q.Nodup
/-- WHAT A FUNCTION THAT IS CALLED FOR EACH PERMUTATION DOES: it turns the block T0. -/
def Each (n T0 : Nat) (g : FuncId) (cap : List PV) (val : List (List Nat) → List PV) : Prop :=
  ∀ (ps : List (List Nat)) (q : List Nat) (h : HP), T0 < 2 * h.next → h.blk T0 = some (val ps) → Good n q → SChE Try.prog g (pli (pnat q) :: cap) h (fun _ h' => h'.blk T0 = some (val (ps ++ [q])) ∧ Fr [T0] h h')
theorem mem_pnat {p : List Nat} {i : Nat} : (i : Int) ∈ pnat p ↔ i ∈ p := by
  unfold pnat
  rw [List.mem_map]
  exact ⟨fun ⟨a, h1, h2⟩ => by rw [show i = a by omega]; exact h1, fun h => ⟨i, h, rfl⟩⟩
theorem contains_n {p : List Nat} {i : Nat} (hl : p.length ≤ 1000) : SC Try.prog 68 [pli (pnat p), pint i] (.sc (.bool (decide (i ∈ p)))) := by
  have := contains_x (xs := pnat p) (x := (i : Int)) (by simp; omega)
  rwa [decide_eq_decide.2 mem_pnat] at this
/-- what is done when the numbers below i are -/
def doneI (n d : Nat) (p : List Nat) (i : Nat) : List (List Nat) := ((rem n p).filter fun x => decide (x < i)).flatMap fun x => (sfx n d (p ++ [x])).map ((p ++ [x]) ++ ·)
theorem doneI_succ {n d : Nat} {p : List Nat} {i : Nat} (hi : i < n) : doneI n d p (i + 1) = doneI n d p i ++ (if i ∈ p then [] else (sfx n d (p ++ [i])).map ((p ++ [i]) ++ ·)) := by
  unfold doneI
  have key : (rem n p).filter (fun x => decide (x < i + 1)) = (rem n p).filter (fun x => decide (x < i)) ++ (if i ∈ p then [] else [i]) := by
    unfold rem
    rw [List.filter_filter, List.filter_filter]
    obtain ⟨m, rfl⟩ : ∃ m, n = i + 1 + m := ⟨n - i - 1, by omega⟩
    have e1 : ∀ m, (List.range (i + 1 + m)).filter (fun a => decide (a < i) && !p.contains a) = (List.range i).filter (fun a => !p.contains a) := by
      intro m
      induction m with
      | zero =>
        rw [Nat.add_zero, List.range_succ, List.filter_append, List.filter_cons_of_neg (by simp), List.filter_nil, List.append_nil]
        exact List.filter_congr (fun x hx => by simp [List.mem_range.1 hx])
      | succ m ih =>
        rw [show i + 1 + (m + 1) = (i + 1 + m) + 1 by omega, List.range_succ, List.filter_append, List.filter_cons_of_neg (by simp; omega), List.filter_nil, List.append_nil, ih]
    have e2 : ∀ m, (List.range (i + 1 + m)).filter (fun a => decide (a < i + 1) && !p.contains a) = (List.range (i + 1)).filter (fun a => !p.contains a) := by
      intro m
      induction m with
      | zero => exact List.filter_congr (fun x hx => by simp [List.mem_range.1 hx])
      | succ m ih =>
        rw [show i + 1 + (m + 1) = (i + 1 + m) + 1 by omega, List.range_succ, List.filter_append, List.filter_cons_of_neg (by simp; omega), List.filter_nil, List.append_nil, ih]
    rw [e1, e2, List.range_succ, List.filter_append]
    congr 1
    by_cases hp : i ∈ p
    · rw [if_pos hp, List.filter_cons_of_neg (by simpa using hp), List.filter_nil]
    · rw [if_neg hp, List.filter_cons_of_pos (by simpa using hp), List.filter_nil]
  rw [key, List.flatMap_append]
  congr 1
  by_cases hp : i ∈ p
  · rw [if_pos hp, if_pos hp]; rfl
  · rw [if_neg hp, if_neg hp]; simp
theorem doneI_zero {n d : Nat} {p : List Nat} : doneI n d p 0 = [] := by
  unfold doneI
  rw [List.filter_eq_nil_iff.2 (fun x _ => by simp)]; rfl
theorem doneI_all {n d : Nat} {p : List Nat} : doneI n d p n = (sfx n (d + 1) p).map (p ++ ·) := by
  unfold doneI
  have e : (rem n p).filter (fun x => decide (x < n)) = rem n p := by
    rw [List.filter_eq_self]
    intro x hx
    simpa using (mem_rem.1 hx).1
  rw [e]
  show _ = ((rem n p).flatMap fun i => (sfx n d (p ++ [i])).map (i :: ·)).map (p ++ ·)
  rw [List.map_flatMap]
  congr 1
  funext i
  rw [List.map_map]
  congr 1
  funext s
  simp
/-- the function in the variable -/
def extC (n tE : Nat) (g : FuncId) (cap : List PV) : PV := .clo 67 [.lptr [pint n], .lptr [.clo g cap], .ptr tE 0]
set_option maxHeartbeats 16000000 in
set_option maxRecDepth 100000 in
theorem extend_e {n T0 tE : Nat} {g : FuncId} {cap : List PV} {val : List (List Nat) → List PV} (hF : Each n T0 g cap val) (hn : n ≤ 6) (hT : T0 % 2 = 1) (hE : tE % 2 = 1) (hne : tE ≠ T0) : ∀ (d : Nat) (p : List Nat) (ps : List (List Nat)) (h : HP), p.length + d = n → (∀ x ∈ p, x < n) → p.Nodup →
    T0 < 2 * h.next → tE < 2 * h.next → h.blk T0 = some (val ps) → h.blk tE = some [extC n tE g cap] →
    SChE Try.prog 67 [pli (pnat p), .lptr [pint n], .lptr [.clo g cap], .ptr tE 0] h (fun _ h' => h'.blk T0 = some (val (ps ++ (sfx n d p).map (p ++ ·))) ∧ Fr [T0] h h')
  | 0, p, ps, h, hl, hlt, hnd, hT2, hE2, hb, hbE => by
    have hk := hF ps p h hT2 hb ⟨by omega, hlt, hnd⟩
    refine SChE.go { wc := [23], rb := [21] } tok mixed Try.func67 rfl rfl Try.ntmps67 rfl rfl (by kernel_rfl) (fun hw => ?_)
    first | simp only [updS] | simp only [updL, Nat.reduceAdd]
    have hpl : (pnat p).length = n := by rw [pnat_len]; omega
    repeat (first | refine S0 ?_ | refine S1 ?_ | refine S2 ?_ | refine S4 ?_ | refine S5 ?_ | refine S6 ?_ | refine S7 ?_ | refine S8 ?_ | refine S9 ?_ | refine S10 ?_ | refine S11 ?_ | refine S13 ?_ | refine S15 ?_ | refine S16 ?_ | refine S19 ?_ | refine S20 ?_ | refine S21 ?_ | refine S22 ?_ | refine S23 ?_ | refine S26 ?_ | refine S28 ?_ | refine S36 ?_ | refine S46 ?_ | refine S49 ?_ | refine S56 ?_ | refine S63 ?_ | refine S65 ?_ | refine S68 ?_ | refine S73 ?_)
    repeat (first | refine S0 ?_ | refine S1 ?_ | refine S2 ?_ | refine S4 ?_ | refine S5 ?_ | refine S6 ?_ | refine S7 ?_ | refine S8 ?_ | refine S9 ?_ | refine S10 ?_ | refine S11 ?_ | refine S13 ?_ | refine S15 ?_ | refine S16 ?_ | refine S19 ?_ | refine S20 ?_ | refine S21 ?_ | refine S22 ?_ | refine S23 ?_ | refine S26 ?_ | refine S28 ?_ | refine S36 ?_ | refine S46 ?_ | refine S49 ?_ | refine S56 ?_ | refine S63 ?_ | refine S65 ?_ | refine S68 ?_ | refine S73 ?_)
    refine AW.callve (f := g) (cap := cap) (args := pli (pnat p) :: cap) rfl rfl rfl hk ?_
    rintro r h' ⟨hb', hf'⟩
    repeat (first | refine S0 ?_ | refine S1 ?_ | refine S2 ?_ | refine S4 ?_ | refine S5 ?_ | refine S6 ?_ | refine S7 ?_ | refine S8 ?_ | refine S9 ?_ | refine S10 ?_ | refine S11 ?_ | refine S13 ?_ | refine S15 ?_ | refine S16 ?_ | refine S19 ?_ | refine S20 ?_ | refine S21 ?_ | refine S22 ?_ | refine S23 ?_ | refine S26 ?_ | refine S28 ?_ | refine S36 ?_ | refine S46 ?_ | refine S49 ?_ | refine S56 ?_ | refine S63 ?_ | refine S65 ?_ | refine S68 ?_ | refine S73 ?_)
    exact ⟨.inr rfl, _, rfl, by simpa [sfx] using hb', hf'⟩
  | d + 1, p, ps, h, hl, hlt, hnd, hT2, hE2, hb, hbE => by
    refine SChE.go { wc := [23], rb := [21] } tok mixed Try.func67 rfl rfl Try.ntmps67 rfl rfl (by kernel_rfl) (fun hw => ?_)
    first | simp only [updS] | simp only [updL, Nat.reduceAdd]
    have hpl : (pnat p).length + d + 1 = n := by rw [pnat_len]; omega
    repeat (first | refine S0 ?_ | refine S1 ?_ | refine S2 ?_ | refine S4 ?_ | refine S5 ?_ | refine S6 ?_ | refine S7 ?_ | refine S8 ?_ | refine S9 ?_ | refine S10 ?_ | refine S11 ?_ | refine S13 ?_ | refine S15 ?_ | refine S16 ?_ | refine S19 ?_ | refine S20 ?_ | refine S21 ?_ | refine S22 ?_ | refine S23 ?_ | refine S26 ?_ | refine S28 ?_ | refine S36 ?_ | refine S46 ?_ | refine S49 ?_ | refine S56 ?_ | refine S63 ?_ | refine S65 ?_ | refine S68 ?_ | refine S73 ?_)
    repeat (first | refine S0 ?_ | refine S1 ?_ | refine S2 ?_ | refine S4 ?_ | refine S5 ?_ | refine S6 ?_ | refine S7 ?_ | refine S8 ?_ | refine S9 ?_ | refine S10 ?_ | refine S11 ?_ | refine S13 ?_ | refine S15 ?_ | refine S16 ?_ | refine S19 ?_ | refine S20 ?_ | refine S21 ?_ | refine S22 ?_ | refine S23 ?_ | refine S26 ?_ | refine S28 ?_ | refine S36 ?_ | refine S46 ?_ | refine S49 ?_ | refine S56 ?_ | refine S63 ?_ | refine S65 ?_ | refine S68 ?_ | refine S73 ?_)
    refine CW.loopS (fun i : Nat => i ≤ n) (fun i => [(0, pli (pnat p)), (1, .lptr [pint n]), (2, .lptr [.clo g cap]), (3, .ptr tE 0), (13, pint n), (14, pint i)]) (fun i hp => hp.blk T0 = some (val (ps ++ doneI n d p i)) ∧ Fr [T0] h hp) (fun i => n - i) 0 ⟨by omega, SLx, ⟨by simpa [doneI_zero] using hb, Fr.refl _ _⟩⟩ ?_
    rintro i t hp hi ⟨hbi, hfr⟩
    first | simp only [updS] | simp only [updL, Nat.reduceAdd]
    by_cases hi2 : i < n
    · repeat (first | refine S0 ?_ | refine S1 ?_ | refine S2 ?_ | refine S4 ?_ | refine S5 ?_ | refine S6 ?_ | refine S7 ?_ | refine S8 ?_ | refine S9 ?_ | refine S10 ?_ | refine S11 ?_ | refine S13 ?_ | refine S15 ?_ | refine S16 ?_ | refine S19 ?_ | refine S20 ?_ | refine S21 ?_ | refine S22 ?_ | refine S23 ?_ | refine S26 ?_ | refine S28 ?_ | refine S36 ?_ | refine S46 ?_ | refine S49 ?_ | refine S56 ?_ | refine S63 ?_ | refine S65 ?_ | refine S68 ?_ | refine S73 ?_)
      refine Scall (args := [pli (pnat p), pint i]) (contains_n (by rw [← pnat_len]; omega)) ?_
      by_cases hm : i ∈ p
      · rw [decide_eq_true (show i ∈ p from hm)]
        repeat (first | refine S0 ?_ | refine S1 ?_ | refine S2 ?_ | refine S4 ?_ | refine S5 ?_ | refine S6 ?_ | refine S7 ?_ | refine S8 ?_ | refine S9 ?_ | refine S10 ?_ | refine S11 ?_ | refine S13 ?_ | refine S15 ?_ | refine S16 ?_ | refine S19 ?_ | refine S20 ?_ | refine S21 ?_ | refine S22 ?_ | refine S23 ?_ | refine S26 ?_ | refine S28 ?_ | refine S36 ?_ | refine S46 ?_ | refine S49 ?_ | refine S56 ?_ | refine S63 ?_ | refine S65 ?_ | refine S68 ?_ | refine S73 ?_)
        exact ⟨i + 1, by omega, SLx, ⟨by rw [doneI_succ hi2, if_pos hm, List.append_nil]; exact hbi, hfr⟩, by omega⟩
      · rw [decide_eq_false (show ¬ i ∈ p from hm)]
        iterate 4 (first | refine S0 ?_ | refine S1 ?_ | refine S2 ?_ | refine S4 ?_ | refine S5 ?_ | refine S6 ?_ | refine S7 ?_ | refine S8 ?_ | refine S9 ?_ | refine S10 ?_ | refine S11 ?_ | refine S13 ?_ | refine S15 ?_ | refine S16 ?_ | refine S19 ?_ | refine S20 ?_ | refine S21 ?_ | refine S22 ?_ | refine S23 ?_ | refine S26 ?_ | refine S28 ?_ | refine S36 ?_ | refine S46 ?_ | refine S49 ?_ | refine S56 ?_ | refine S63 ?_ | refine S65 ?_ | refine S68 ?_ | refine S73 ?_)
        have hbx : hp.blk tE = some [extC n tE g cap] := by rw [hfr.blk tE hE2 (by simpa using hne)]; exact hbE
        unfold extC at hbx
        refine CW.regionDL 6 (by kernel_rfl) (by rfl) (by rfl) (by intro _ h; cases h) ?_
        repeat (first | refine S0 ?_ | refine S1 ?_ | refine S2 ?_ | refine S4 ?_ | refine S5 ?_ | refine S6 ?_ | refine S7 ?_ | refine S8 ?_ | refine S9 ?_ | refine S10 ?_ | refine S11 ?_ | refine S13 ?_ | refine S15 ?_ | refine S16 ?_ | refine S19 ?_ | refine S20 ?_ | refine S21 ?_ | refine S22 ?_ | refine S23 ?_ | refine S26 ?_ | refine S28 ?_ | refine S36 ?_ | refine S46 ?_ | refine S49 ?_ | refine S56 ?_ | refine S63 ?_ | refine S65 ?_ | refine S68 ?_ | refine S73 ?_)
        refine Scallo (args := [pli (pnat p)]) (clone_o _ (by rw [pnat_len]; omega)) ?_
        repeat (first | refine S0 ?_ | refine S1 ?_ | refine S2 ?_ | refine S4 ?_ | refine S5 ?_ | refine S6 ?_ | refine S7 ?_ | refine S8 ?_ | refine S9 ?_ | refine S10 ?_ | refine S11 ?_ | refine S13 ?_ | refine S15 ?_ | refine S16 ?_ | refine S19 ?_ | refine S20 ?_ | refine S21 ?_ | refine S22 ?_ | refine S23 ?_ | refine S26 ?_ | refine S28 ?_ | refine S36 ?_ | refine S46 ?_ | refine S49 ?_ | refine S56 ?_ | refine S63 ?_ | refine S65 ?_ | refine S68 ?_ | refine S73 ?_)
        refine LW.freeze 26 (xs := pnat p ++ [(i : Int)]) (by simp; rfl) HBx ?_
        generalize hH : HP.kill _ _ = H
        have k1 := hw.lt hb
        have fr : Fr [] hp H := by
          subst hH
          exact ((((Fr.refl [] hp).add false _).kill (.inr (HP.tok_ge _ _).1)).add false _).kill (.inr (Nat.le_trans (by show 2 * hp.next ≤ 2 * (hp.next + 1); omega) (HP.tok_ge _ _).1))
        have k2 := hfr.next
        have k3 := fr.next
        have ih := extend_e hF hn hT hE hne d (p ++ [i]) (ps ++ doneI n d p i) H (by simp; omega) (by intro x hx; rcases List.mem_append.1 hx with h1 | h1; exact hlt x h1; simp at h1; omega) (List.nodup_append.2 ⟨hnd, by simp, by intro a h1 b h2 e; simp at h2; subst h2; subst e; exact hm h1⟩) (by omega) (by omega) (by rw [fr.blk _ (by omega) (by simp)]; exact hbi) (by rw [fr.blk _ (by omega) (by simp), hfr.blk tE hE2 (by simpa using hne)]; exact hbE)
        rw [pnat_app] at ih
        refine LW.ope (d := 27) rfl (by omega) (fun _ => OpE.callv rfl rfl (ih.mono ?_))
        rintro r h' ⟨hb', hf'⟩
        repeat (first | refine S0 ?_ | refine S1 ?_ | refine S2 ?_ | refine S4 ?_ | refine S5 ?_ | refine S6 ?_ | refine S7 ?_ | refine S8 ?_ | refine S9 ?_ | refine S10 ?_ | refine S11 ?_ | refine S13 ?_ | refine S15 ?_ | refine S16 ?_ | refine S19 ?_ | refine S20 ?_ | refine S21 ?_ | refine S22 ?_ | refine S23 ?_ | refine S26 ?_ | refine S28 ?_ | refine S36 ?_ | refine S46 ?_ | refine S49 ?_ | refine S56 ?_ | refine S63 ?_ | refine S65 ?_ | refine S68 ?_ | refine S73 ?_)
        refine ⟨i + 1, by omega, SLx, ⟨?_, (hfr.trans fr (by simp)).trans hf' (by simp)⟩, by omega⟩
        rw [doneI_succ hi2, if_neg hm, ← List.append_assoc]
        exact hb'
    · repeat (first | refine S0 ?_ | refine S1 ?_ | refine S2 ?_ | refine S4 ?_ | refine S5 ?_ | refine S6 ?_ | refine S7 ?_ | refine S8 ?_ | refine S9 ?_ | refine S10 ?_ | refine S11 ?_ | refine S13 ?_ | refine S15 ?_ | refine S16 ?_ | refine S19 ?_ | refine S20 ?_ | refine S21 ?_ | refine S22 ?_ | refine S23 ?_ | refine S26 ?_ | refine S28 ?_ | refine S36 ?_ | refine S46 ?_ | refine S49 ?_ | refine S56 ?_ | refine S63 ?_ | refine S65 ?_ | refine S68 ?_ | refine S73 ?_)
      obtain rfl : i = n := by omega
      exact ⟨.inl rfl, _, rfl, by simpa [← doneI_all] using hbi, hfr⟩
set_option maxHeartbeats 16000000 in
set_option maxRecDepth 100000 in
theorem perms_e {n T0 : Nat} {g : FuncId} {cap : List PV} {val : List (List Nat) → List PV} (hF : Each n T0 g cap val) (hn : n ≤ 6) (hT : T0 % 2 = 1) {h : HP} (hb : h.blk T0 = some (val [])) :
    SChE Try.prog 48 [pint n, .clo g cap] h (fun _ h' => h'.blk T0 = some (val (sfx n n [])) ∧ Fr [T0] h h') := by
  refine SChE.go {} tok mixed Try.func48 rfl rfl Try.ntmps48 rfl rfl (by kernel_rfl) (fun hw => ?_)
  first | simp only [updS] | simp only [updL, Nat.reduceAdd]
  repeat (first | refine S0 ?_ | refine S1 ?_ | refine S2 ?_ | refine S4 ?_ | refine S5 ?_ | refine S6 ?_ | refine S7 ?_ | refine S8 ?_ | refine S9 ?_ | refine S10 ?_ | refine S11 ?_ | refine S13 ?_ | refine S15 ?_ | refine S16 ?_ | refine S19 ?_ | refine S20 ?_ | refine S21 ?_ | refine S22 ?_ | refine S23 ?_ | refine S26 ?_ | refine S28 ?_ | refine S36 ?_ | refine S46 ?_ | refine S49 ?_ | refine S56 ?_ | refine S63 ?_ | refine S65 ?_ | refine S68 ?_ | refine S73 ?_)
  refine AW.boxc rfl rfl ?_
  repeat (first | refine S0 ?_ | refine S1 ?_ | refine S2 ?_ | refine S4 ?_ | refine S5 ?_ | refine S6 ?_ | refine S7 ?_ | refine S8 ?_ | refine S9 ?_ | refine S10 ?_ | refine S11 ?_ | refine S13 ?_ | refine S15 ?_ | refine S16 ?_ | refine S19 ?_ | refine S20 ?_ | refine S21 ?_ | refine S22 ?_ | refine S23 ?_ | refine S26 ?_ | refine S28 ?_ | refine S36 ?_ | refine S46 ?_ | refine S49 ?_ | refine S56 ?_ | refine S63 ?_ | refine S65 ?_ | refine S68 ?_ | refine S73 ?_)
  have k1 := hw.lt hb
  have ht := HP.tokT h
  have fr : Fr [] h ((h.add true [.sc Value.nilFunc]).set (h.tok true) [extC n (h.tok true) g cap]) := ((Fr.refl [] h).add true _).set _ (.inr (HP.tok_ge _ _).1)
  have ke := extend_e hF hn hT (tE := h.tok true) (by omega) (by omega) n [] [] ((h.add true [.sc Value.nilFunc]).set (h.tok true) [extC n (h.tok true) g cap]) (by simp) (by simp) (by simp) (by have := fr.next; omega) (by show _ < 2 * (h.next + 1); omega) (by rw [fr.blk _ (by omega) (by simp)]; exact hb) (HP.set_same _ _ _)
  refine AW.callve rfl rfl rfl (SChE.arg0 V.nil_pli ke) ?_
  rintro r h' ⟨hb', hf'⟩
  repeat (first | refine S0 ?_ | refine S1 ?_ | refine S2 ?_ | refine S4 ?_ | refine S5 ?_ | refine S6 ?_ | refine S7 ?_ | refine S8 ?_ | refine S9 ?_ | refine S10 ?_ | refine S11 ?_ | refine S13 ?_ | refine S15 ?_ | refine S16 ?_ | refine S19 ?_ | refine S20 ?_ | refine S21 ?_ | refine S22 ?_ | refine S23 ?_ | refine S26 ?_ | refine S28 ?_ | refine S36 ?_ | refine S46 ?_ | refine S49 ?_ | refine S56 ?_ | refine S63 ?_ | refine S65 ?_ | refine S68 ?_ | refine S73 ?_)
  exact ⟨.inl rfl, _, rfl, by simpa using hb', Fr.trans (X := [T0]) (((Fr.refl _ h).add true [.sc Value.nilFunc]).set [extC n (h.tok true) g cap] (.inr (HP.tok_ge h true).1)) hf' (by simp)⟩
end Go.Proofs.Ytenoiklocdoemaa
