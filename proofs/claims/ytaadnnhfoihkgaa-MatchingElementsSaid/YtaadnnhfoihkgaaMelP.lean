/- All planar matchings by trying the partner of the first open point: the plain facts. Nothing of the program is here. -/
import Derived.Test.YtaadnnhfoihkgaaMtA
set_option linter.unusedVariables false
set_option linter.unusedSimpArgs false
namespace Go.Proofs.Ytaadnnhfoihkgaa

/-- the first open point -/
def ixm : List Int → Nat
  | [] => 0
  | x :: l => if x = -1 then 0 else ixm l + 1
theorem ixm_spec : ∀ {d : List Int}, (-1 : Int) ∈ d → ixm d < d.length ∧ (∀ k, k < ixm d → d.getD k 0 ≠ -1) ∧ d.getD (ixm d) 0 = -1
  | x :: l, h => by
    unfold ixm
    by_cases hx : x = -1
    · rw [if_pos hx]
      exact ⟨by simp, fun k hk => by omega, by simpa using hx⟩
    · rw [if_neg hx]
      have hm : (-1 : Int) ∈ l := by
        rcases List.mem_cons.1 h with h | h
        · exact absurd h.symm hx
        · exact h
      obtain ⟨h1, h2, h3⟩ := ixm_spec hm
      refine ⟨by simp; omega, fun k hk => ?_, by simpa using h3⟩
      match k, hk with
      | 0, _ => simpa using hx
      | k + 1, hk => simpa using h2 k (by omega)
/-- how many points are open -/
def opn (d : List Int) : Nat := (d.filter fun x => decide (x = -1)).length
theorem opn_zero {d : List Int} (h : opn d = 0) : (-1 : Int) ∉ d := fun hm => by
  have := List.eq_nil_of_length_eq_zero h
  have h2 : (-1 : Int) ∈ d.filter fun x => decide (x = -1) := List.mem_filter.2 ⟨hm, by simp⟩
  rw [this] at h2; cases h2
theorem opn_set : ∀ {d : List Int} {i : Nat} {v : Int}, i < d.length → d.getD i 0 = -1 → v ≠ -1 → opn (d.set i v) + 1 = opn d
  | x :: l, 0, v, _, h, hv => by
    have hx : x = -1 := by simpa using h
    subst hx
    simp [opn, hv]
  | x :: l, i + 1, v, hi, h, hv => by
    have ih := opn_set (d := l) (i := i) (v := v) (by simpa using hi) (by simpa using h) hv
    simp only [opn, List.set_cons_succ, List.filter_cons] at ih ⊢
    split
    · simp only [List.length_cons]; omega
    · exact ih
theorem getD_set_eq {d : List Int} {i : Nat} {v : Int} (h : i < d.length) : (d.set i v).getD i 0 = v := by simp [List.getD, h]
theorem getD_set_ne {d : List Int} {i j : Nat} {v : Int} (h : i ≠ j) : (d.set i v).getD j 0 = d.getD j 0 := by simp [List.getD, List.getElem?_set, h]
/-- a matching of which some points are open -/
structure Mch (n : Nat) (d : List Int) : Prop where
  len : d.length = 2 * n
  ok : ∀ i, i < 2 * n → d.getD i 0 = -1 ∨ (0 ≤ d.getD i 0 ∧ d.getD i 0 < 2 * (n : Int) ∧ d.getD i 0 ≠ i ∧ d.getD (d.getD i 0).toNat 0 = i)
theorem Mch.neg {n : Nat} {d : List Int} (h : Mch n d) {k : Nat} (hk : k < 2 * n) (hn : d.getD k 0 < 0) : d.getD k 0 = -1 := by
  rcases h.ok k hk with h1 | h1 <;> omega
/-- two open points are joined -/
def jn (d : List Int) (i k : Nat) : List Int := (d.set i (k : Int)).set k (i : Int)
theorem jn_len (d : List Int) (i k : Nat) : (jn d i k).length = d.length := by simp [jn]
theorem jn_get {d : List Int} {i k j : Nat} (hi : i < d.length) (hk : k < d.length) (hne : i ≠ k) : (jn d i k).getD j 0 = if j = k then (i : Int) else if j = i then (k : Int) else d.getD j 0 := by
  unfold jn
  by_cases h1 : j = k
  · subst h1; rw [if_pos rfl, getD_set_eq (by simpa using hk)]
  · rw [if_neg h1, getD_set_ne (fun e => h1 e.symm)]
    by_cases h2 : j = i
    · subst h2; rw [if_pos rfl, getD_set_eq hi]
    · rw [if_neg h2, getD_set_ne (fun e => h2 e.symm)]
theorem Mch.join {n : Nat} {d : List Int} (h : Mch n d) {i k : Nat} (hi : i < 2 * n) (hk : k < 2 * n) (hne : i ≠ k) (h1 : d.getD i 0 = -1) (h2 : d.getD k 0 = -1) : Mch n (jn d i k) := by
  have hl := h.len
  refine ⟨by rw [jn_len, hl], fun j hj => ?_⟩
  have g := fun q => jn_get (d := d) (i := i) (k := k) (j := q) (by omega) (by omega) hne
  rw [g j]
  by_cases e1 : j = k
  · subst e1
    rw [if_pos rfl]
    refine .inr ⟨by omega, by omega, by omega, ?_⟩
    rw [Int.toNat_natCast, g i, if_neg hne, if_pos rfl]
  · rw [if_neg e1]
    by_cases e2 : j = i
    · subst e2
      rw [if_pos rfl]
      refine .inr ⟨by omega, by omega, by omega, ?_⟩
      rw [Int.toNat_natCast, g k, if_pos rfl]
    · rw [if_neg e2]
      rcases h.ok j hj with h3 | ⟨h3, h4, h5, h6⟩
      · exact .inl h3
      · refine .inr ⟨h3, h4, h5, ?_⟩
        rw [g, if_neg, if_neg]
        · exact h6
        · intro e; rw [e, h1] at h6; omega
        · intro e; rw [e, h2] at h6; omega
theorem jn_back {d : List Int} {i k : Nat} (hi : i < d.length) (hk : k < d.length) (hne : i ≠ k) (h1 : d.getD i 0 = -1) (h2 : d.getD k 0 = -1) : ((jn d i k).set i (-1)).set k (-1) = d := by
  apply List.ext_getElem (by simp [jn])
  intro j g1 g2
  rw [← getD_lt 0 g1, ← getD_lt 0 g2]
  by_cases e1 : j = k
  · subst e1; rw [getD_set_eq (by simp [jn]; omega), h2]
  · rw [getD_set_ne (fun e => e1 e.symm)]
    by_cases e2 : j = i
    · subst e2; rw [getD_set_eq (by simp [jn]; omega), h1]
    · rw [getD_set_ne (fun e => e2 e.symm), jn_get hi hk hne, if_neg e1, if_neg e2]
theorem jn_opn {d : List Int} {i k : Nat} (hi : i < d.length) (hk : k < d.length) (hne : i ≠ k) (h1 : d.getD i 0 = -1) (h2 : d.getD k 0 = -1) : opn (jn d i k) + 2 = opn d := by
  have e1 := opn_set (v := (k : Int)) hi h1 (by omega)
  have e2 := opn_set (d := d.set i (k : Int)) (i := k) (v := (i : Int)) (by simpa using hk) (by rw [getD_set_ne hne, h2]) (by omega)
  unfold jn; omega
def plB (n : Nat) (d : List Int) : Bool := decide (((arL n).foldl (stkS d) []).length = 0)
def leafL (n : Nat) (d : List Int) : List (List Int) := if plB n d then [d] else []
/-- all planar matchings that go on from d -/
def fillL (n : Nat) : Nat → List Int → List (List Int)
  | 0, d => if plB n d then [d] else []
  | f + 1, d => if (-1 : Int) ∈ d then (List.range' (ixm d + 1) (2 * n - (ixm d + 1))).flatMap (fun k => if d.getD k 0 < 0 then fillL n f (jn d (ixm d) k) else []) else if plB n d then [d] else []
theorem fillL_leaf {n : Nat} {d : List Int} (h : (-1 : Int) ∉ d) : ∀ f, fillL n f d = leafL n d
  | 0 => rfl
  | f + 1 => by unfold fillL; rw [if_neg h]; rfl
/-- what is done when the partners below k are -/
def doneF (n f : Nat) (d : List Int) (k : Nat) : List (List Int) := (List.range' (ixm d + 1) (k - (ixm d + 1))).flatMap (fun k => if d.getD k 0 < 0 then fillL n f (jn d (ixm d) k) else [])
theorem doneF_start {n f : Nat} {d : List Int} : doneF n f d (ixm d + 1) = [] := by simp [doneF]
theorem doneF_succ {n f : Nat} {d : List Int} {k : Nat} (h : ixm d + 1 ≤ k) : doneF n f d (k + 1) = doneF n f d k ++ (if d.getD k 0 < 0 then fillL n f (jn d (ixm d) k) else []) := by
  unfold doneF
  rw [show k + 1 - (ixm d + 1) = (k - (ixm d + 1)) + 1 by omega, List.range'_1_concat, List.flatMap_append, show ixm d + 1 + (k - (ixm d + 1)) = k by omega]
  simp
theorem doneF_all {n f : Nat} {d : List Int} (h : (-1 : Int) ∈ d) : doneF n f d (2 * n) = fillL n (f + 1) d := by
  unfold fillL
  rw [if_pos h]; rfl
theorem flatMap_le {β : Type} {G : Nat → List β} {B : Nat} (h : ∀ k, (G k).length ≤ B) : ∀ l : List Nat, (l.flatMap G).length ≤ l.length * B
  | [] => by simp
  | k :: l => by
    rw [List.flatMap_cons, List.length_append, List.length_cons, Nat.succ_mul]
    have := flatMap_le h l
    have := h k
    omega
theorem fillL_len (n : Nat) : ∀ (f : Nat) (d : List Int), 1 ≤ n → (fillL n f d).length ≤ (2 * n) ^ f
  | 0, d, _ => by
    unfold fillL
    split <;> simp
  | f + 1, d, hn => by
    have h1 : 1 ≤ (2 * n) ^ (f + 1) := Nat.pow_pos (by omega)
    unfold fillL
    split
    · refine Nat.le_trans (flatMap_le (B := (2 * n) ^ f) (fun k => ?_) _) ?_
      · split
        · exact fillL_len n f _ hn
        · simp
      · rw [List.length_range', Nat.pow_succ, Nat.mul_comm ((2 * n) ^ f)]
        exact Nat.mul_le_mul_right _ (by omega)
    · split
      · simpa using h1
      · simp
theorem doneF_len {n : Nat} (hn : 1 ≤ n) (f : Nat) (d : List Int) (k : Nat) : (doneF n f d k).length ≤ (k - (ixm d + 1)) * (2 * n) ^ f := by
  have := flatMap_le (G := fun k => if d.getD k 0 < 0 then fillL n f (jn d (ixm d) k) else []) (B := (2 * n) ^ f) (fun k => by
    split
    · exact fillL_len n f _ hn
    · simp) (List.range' (ixm d + 1) (k - (ixm d + 1)))
  rwa [List.length_range'] at this
/-- at a matching without open points the reference finds a fault only if it is not planar -/
theorem leaf_fault {n : Nat} (hn : 1 ≤ n ∧ n ≤ 6) {d : List Int} (h : Mch n d) (hf : (-1 : Int) ∉ d) : (matF n d = 0) ↔ plB n d = true := by
  have hl := h.len
  have hb : ∀ i, i < d.length → bdm d i = false := fun i hi => by
    have hm : d.getD i 0 ≠ -1 := fun e => hf (by rw [← e, getD_lt 0 hi]; exact List.getElem_mem hi)
    obtain ⟨h1, h2, h3, h4⟩ := (h.ok i (by omega)).resolve_left hm
    unfold bdm
    rw [decide_eq_false (by omega), decide_eq_false (by omega), decide_eq_false h3, decide_eq_false (by rw [h4]; simp)]; rfl
  unfold matF plB
  rw [if_neg (by omega), if_neg (by omega), any_no hb]
  simp only [Bool.false_eq_true, if_false, Int.toNat_natCast, decide_eq_true_eq]
  split <;> simp_all
theorem opn_le (d : List Int) : opn d ≤ d.length := List.length_filter_le _ _
theorem mch_start (n : Nat) : Mch n (List.replicate (2 * n) (-1)) := ⟨by simp, fun i hi => .inl (by simp [List.getD, hi])⟩
end Go.Proofs.Ytaadnnhfoihkgaa
