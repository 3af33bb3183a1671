/- coloring.Count. No condition of its own. -/
import Derived.Test.YtgjfpmjllpgadaaGColorCountsBO
import Derived.Test.YtgjfpmjllpgadaaGColorCountsBP
import Derived.Test.YtgjfpmjllpgadaaGColorCountsBQ
import Derived.Test.YtgjfpmjllpgadaaGColorCountsBV
import Derived.Test.YtgjfpmjllpgadaaGColorCountsBL
set_option linter.unusedVariables false
set_option linter.unusedSimpArgs false
namespace Go.Proofs.Ytgjfpmjllpgadaa
open Go.RowKit

theorem mF_zero {m : List (List Int)} {k : Nat} (h1 : m.length ≤ 6) (hk : k ≤ 6) (h2 : ∀ r ∈ m, r.length = k ∧ ∀ x ∈ r, okE x) : mF m = 0 := by
  unfold mF
  rw [if_neg (by omega)]
  have key : ∀ l : List (List Int), (∀ r ∈ l, r.length = k ∧ ∀ x ∈ r, okE x) → rsF k l = 0 := by
    intro l
    induction l with
    | nil => intro _; rfl
    | cons r l ih =>
      intro h
      obtain ⟨h3, h4⟩ := h r (by simp)
      unfold rsF
      have : rF k r = 0 := by
        unfold rF
        rw [if_neg (by omega), if_neg (by omega), if_pos h4]
      rw [if_pos this]
      exact ih (fun s hs => h s (by simp [hs]))
  cases m with
  | nil => rfl
  | cons r m =>
    have := (h2 r (by simp)).1
    show rsF r.length (r :: m) = 0
    rw [this]
    exact key _ h2
/-- the matrix when k columns are there, and of the next one the first i0 numbers -/
def colR (n : Nat) (q : Int) (w : List Int) (k i0 i : Nat) : List Int := rowF n (fun j => if j < k ∨ (j = k ∧ i < i0) then colM n q w i j else 0)
theorem colR_len (n : Nat) (q : Int) (w : List Int) (k i0 i : Nat) : (colR n q w k i0 i).length = n := rowF_len _ _
theorem colR_zero (n : Nat) (q : Int) (w : List Int) (i : Nat) : colR n q w 0 0 i = List.replicate n 0 := by
  rw [← rowF_zero]
  exact rowF_ext (fun j _ => if_neg (by omega))
theorem colR_set {n : Nat} {q : Int} {w : List Int} {k i : Nat} (hk : k < n) : (colR n q w k i i).set k (colM n q w i k) = colR n q w k (i + 1) i :=
  rowF_set hk (if_pos (by omega)) (fun j _ hj => by
    by_cases h : j < k
    · rw [if_pos (by omega), if_pos (by omega)]
    · rw [if_neg (by omega), if_neg (by omega)])
theorem colR_ne {n : Nat} {q : Int} {w : List Int} {k i j : Nat} (h : j ≠ i) : colR n q w k (i + 1) j = colR n q w k i j :=
  rowF_ext (fun x _ => by
    by_cases h : x < k ∨ (x = k ∧ j < i)
    · rw [if_pos (by omega), if_pos h]
    · rw [if_neg (by omega), if_neg h])
theorem colR_next {n : Nat} {q : Int} {w : List Int} {k j : Nat} (hj : j < n) : colR n q w k n j = colR n q w (k + 1) 0 j :=
  rowF_ext (fun x _ => by
    by_cases h : x < k ∨ (x = k ∧ j < n)
    · rw [if_pos h, if_pos (by omega)]
    · rw [if_neg h, if_neg (by omega)])
def colL (n : Nat) (q : Int) (w : List Int) : List (List Int) := (List.range n).map (colR n q w n 0)
theorem colL_len (n : Nat) (q : Int) (w : List Int) : (colL n q w).length = n := by simp [colL]
theorem colL_row {n : Nat} {q : Int} {w : List Int} {i : Nat} (hi : i < n) : (colL n q w).getD i [] = rowF n (fun j => colM n q w i j) := by
  have : (colL n q w).getD i [] = colR n q w n 0 i := by simp [colL, List.getD, hi]
  rw [this]
  exact rowF_ext (fun j hj => if_pos (.inl hj))
theorem colL_ent {n : Nat} {q : Int} {w : List Int} {i j : Nat} (hi : i < n) (hj : j < n) : ent (colL n q w) i j = colM n q w i j := by
  unfold ent
  rw [colL_row hi, rowF_get hj]
theorem colM_bd {n : Nat} {q : Int} (hq : 1 ≤ q ∧ q ≤ 13) {w : List Int} (hw : WordOk n w) {i j : Nat} (hi : i < n) (hj : j < n) : -13 ≤ colM n q w i j ∧ colM n q w i j ≤ 13 := by
  have h1 := uniV_cols (n := n) (q := q) (k := j) hq.1 hj
  have h2 := (colW_cols hq.1 w _ hw h1).2 i hi
  have h3 := h1.2 i hi
  unfold colM; omega
theorem colL_ok {n : Nat} {q : Int} (hq : 1 ≤ q ∧ q ≤ 13) {w : List Int} (hw : WordOk n w) (hn : n ≤ 6) : mF (colL n q w) = 0 ∧ Mx (colL n q w) n n := by
  have h0 : mF (colL n q w) = 0 := mF_zero (k := n) (by rw [colL_len]; exact hn) hn (fun r hr => by
    obtain ⟨i, hi, rfl⟩ := List.getElem_of_mem hr
    rw [colL_len] at hi
    have e : (colL n q w)[i]'(by rw [colL_len]; exact hi) = rowF n (fun j => colM n q w i j) := by rw [← colL_row hi, getD_lt]
    rw [e]
    refine ⟨rowF_len _ _, fun x hx => ?_⟩
    unfold rowF at hx
    obtain ⟨j, hj, rfl⟩ := List.mem_map.1 hx
    have := colM_bd hq hw hi (List.mem_range.1 hj)
    unfold okE; omega)
  refine ⟨h0, ?_⟩
  have := mF_ok h0
  rw [colL_len] at this
  by_cases hn0 : n = 0
  · subst hn0
    exact this
  · rwa [colL_row (by omega), rowF_len] at this
/-- how many lists of colours come back -/
def fixN (n : Nat) (q : Nat) (w : List Int) : Nat := ((List.range (q ^ n)).filter fun t => decide (colW q w (nvi (dig q n t)) = nvi (dig q n t))).length
theorem nvi_cols {n q : Nat} {v : List Nat} (h : v.length = n) (hv : ∀ j, j < n → v.getD j 0 < q) : Cols n q (nvi v) := ⟨by rw [nvi_len, h], fun i hi => by rw [nvi_get]; have := hv i hi; omega⟩
theorem col_cnt {n q : Nat} (hq : 1 ≤ q ∧ q ≤ 13) {w : List Int} (hw : WordOk n w) : cntS (ent (colL n q w)) n n q = fixN n q w := by
  unfold fixN
  rw [cnt_dig hq.1 n (fun v => decide (colW q w (nvi v) = nvi v))]
  unfold cntS
  congr 1
  refine List.filter_congr (fun v hv => ?_)
  obtain ⟨v1, v2⟩ := mem_vecs.1 hv
  have hvc : Cols n q (nvi v) := nvi_cols v1 (fun j hj => by
    have : v.getD j 0 = v[j]'(by omega) := by simp [List.getD, show j < v.length by omega]
    rw [this]; exact v2 _ (List.getElem_mem _))
  have key : ∀ r, r < n → ((q : Int) ∣ dotV (ent (colL n q w) r) v n ↔ (colW q w (nvi v)).getD r 0 = (nvi v).getD r 0) := fun r hr => by
    rw [← colM_dvd (by omega) hw hvc hr]
    have e : dotV (ent (colL n q w) r) v n = sm (List.range n) fun k => colM n q w r k * (nvi v).getD k 0 := by
      unfold dotV
      have : ∀ l : List Nat, (∀ k ∈ l, k < n) → sm l (fun j => ent (colL n q w) r j * ((v.getD j 0 : Nat) : Int)) = sm l (fun k => colM n q w r k * (nvi v).getD k 0) := by
        intro l
        induction l with
        | nil => intro _; rfl
        | cons k l ih =>
          intro h
          simp only [sm]
          rw [colL_ent hr (h k (by simp)), nvi_get, ih (fun k hk => h k (by simp [hk]))]
      exact this _ (fun k hk => List.mem_range.1 hk)
    rw [e]
  unfold solB
  rw [Bool.eq_iff_iff]
  simp only [List.all_eq_true, List.mem_range, decide_eq_true_eq]
  constructor
  · intro h
    apply List.ext_getElem (by rw [colW_len])
    intro r g1 g2
    have hr : r < n := by rw [nvi_len, v1] at g2; exact g2
    have := (key r hr).1 (h r hr)
    rwa [getD_lt 0 g1, getD_lt 0 g2] at this
  · intro h r hr
    rw [key r hr, h]
set_option maxHeartbeats 16000000 in
set_option maxRecDepth 100000 in
theorem count_bad {n q : Int} {w : List Int} (h0 : bF n w ≠ 0) : SC Try.prog 39 [pint n, pli w, pint q] (.tup [pint 0, pint (bF n w)]) := by
  have kc := bcheck_s n w
  refine SC.go {} tok mixed Try.func39 rfl rfl Try.ntmps39 rfl rfl (by kernel_rfl) ?_
  first | simp only [updS] | simp only [updL, Nat.reduceAdd]
  repeat (first | refine S0 ?_ | refine S1 ?_ | refine S2 ?_ | refine S3 ?_ | refine S4 ?_ | refine S5 ?_ | refine S6 ?_ | refine S7 ?_ | refine S8 ?_ | refine S9 ?_ | refine S10 ?_ | refine S11 ?_ | refine S13 ?_ | refine S15 ?_ | refine S16 ?_ | refine S19 ?_ | refine S20 ?_ | refine S21 ?_ | refine S22 ?_ | refine S23 ?_ | refine S24 ?_ | refine S25 ?_ | refine S26 ?_ | refine S27 ?_ | refine S29 ?_ | refine S30 ?_ | refine S33 ?_ | refine S34 ?_ | refine S37 ?_ | refine S38 ?_ | refine S40 ?_ | refine S41 ?_ | refine S53 ?_ | refine S71 ?_ | refine S72 ?_)
  refine Scall (args := [pint n, pli w]) kc ?_
  repeat (first | refine S0 ?_ | refine S1 ?_ | refine S2 ?_ | refine S3 ?_ | refine S4 ?_ | refine S5 ?_ | refine S6 ?_ | refine S7 ?_ | refine S8 ?_ | refine S9 ?_ | refine S10 ?_ | refine S11 ?_ | refine S13 ?_ | refine S15 ?_ | refine S16 ?_ | refine S19 ?_ | refine S20 ?_ | refine S21 ?_ | refine S22 ?_ | refine S23 ?_ | refine S24 ?_ | refine S25 ?_ | refine S26 ?_ | refine S27 ?_ | refine S29 ?_ | refine S30 ?_ | refine S33 ?_ | refine S34 ?_ | refine S37 ?_ | refine S38 ?_ | refine S40 ?_ | refine S41 ?_ | refine S53 ?_ | refine S71 ?_ | refine S72 ?_)
  exact ⟨.inr rfl, .cl rfl⟩
set_option maxHeartbeats 16000000 in
set_option maxRecDepth 100000 in
theorem count_arg {n q : Int} {w : List Int} (h0 : bF n w = 0) (hq : q < 1 ∨ 13 < q) : SC Try.prog 39 [pint n, pli w, pint q] (.tup [pint 0, pint 1]) := by
  have kc := bcheck_s n w
  rw [h0] at kc
  refine SC.go {} tok mixed Try.func39 rfl rfl Try.ntmps39 rfl rfl (by kernel_rfl) ?_
  first | simp only [updS] | simp only [updL, Nat.reduceAdd]
  repeat (first | refine S0 ?_ | refine S1 ?_ | refine S2 ?_ | refine S3 ?_ | refine S4 ?_ | refine S5 ?_ | refine S6 ?_ | refine S7 ?_ | refine S8 ?_ | refine S9 ?_ | refine S10 ?_ | refine S11 ?_ | refine S13 ?_ | refine S15 ?_ | refine S16 ?_ | refine S19 ?_ | refine S20 ?_ | refine S21 ?_ | refine S22 ?_ | refine S23 ?_ | refine S24 ?_ | refine S25 ?_ | refine S26 ?_ | refine S27 ?_ | refine S29 ?_ | refine S30 ?_ | refine S33 ?_ | refine S34 ?_ | refine S37 ?_ | refine S38 ?_ | refine S40 ?_ | refine S41 ?_ | refine S53 ?_ | refine S71 ?_ | refine S72 ?_)
  refine Scall (args := [pint n, pli w]) kc ?_
  by_cases h1 : q < 1
  · repeat (first | refine S0 ?_ | refine S1 ?_ | refine S2 ?_ | refine S3 ?_ | refine S4 ?_ | refine S5 ?_ | refine S6 ?_ | refine S7 ?_ | refine S8 ?_ | refine S9 ?_ | refine S10 ?_ | refine S11 ?_ | refine S13 ?_ | refine S15 ?_ | refine S16 ?_ | refine S19 ?_ | refine S20 ?_ | refine S21 ?_ | refine S22 ?_ | refine S23 ?_ | refine S24 ?_ | refine S25 ?_ | refine S26 ?_ | refine S27 ?_ | refine S29 ?_ | refine S30 ?_ | refine S33 ?_ | refine S34 ?_ | refine S37 ?_ | refine S38 ?_ | refine S40 ?_ | refine S41 ?_ | refine S53 ?_ | refine S71 ?_ | refine S72 ?_)
    exact ⟨.inr rfl, .cl rfl⟩
  · repeat (first | refine S0 ?_ | refine S1 ?_ | refine S2 ?_ | refine S3 ?_ | refine S4 ?_ | refine S5 ?_ | refine S6 ?_ | refine S7 ?_ | refine S8 ?_ | refine S9 ?_ | refine S10 ?_ | refine S11 ?_ | refine S13 ?_ | refine S15 ?_ | refine S16 ?_ | refine S19 ?_ | refine S20 ?_ | refine S21 ?_ | refine S22 ?_ | refine S23 ?_ | refine S24 ?_ | refine S25 ?_ | refine S26 ?_ | refine S27 ?_ | refine S29 ?_ | refine S30 ?_ | refine S33 ?_ | refine S34 ?_ | refine S37 ?_ | refine S38 ?_ | refine S40 ?_ | refine S41 ?_ | refine S53 ?_ | refine S71 ?_ | refine S72 ?_)
    exact ⟨.inr rfl, .cl rfl⟩
set_option maxHeartbeats 16000000 in
set_option maxRecDepth 100000 in
theorem count_ok {n q : Nat} {w : List Int} (hn : 1 ≤ n) (hw : Wd n w) (h0 : bF n w = 0) (hq : 1 ≤ q ∧ q ≤ 13) : SC Try.prog 39 [pint n, pli w, pint q] (.tup [pint (fixN n q w : Nat), pint 0]) := by
  have kc := bcheck_s n w
  rw [h0] at kc
  have hn6 := hw.n9
  have hwl := hw.len
  have hwo := hw.wok
  have hqi : (1 : Int) ≤ q ∧ (q : Int) ≤ 13 := by omega
  obtain ⟨hm0, hM⟩ := colL_ok hqi hwo hn6
  have hD := gD_dv (colL n q w) n n
  have ks := solsE_s hM hm0 hD hq
  rw [← sols_cnt hD hq.1, col_cnt hq hwo] at ks
  refine SC.go {} tok mixed Try.func39 rfl rfl Try.ntmps39 rfl rfl (by kernel_rfl) ?_
  first | simp only [updS] | simp only [updL, Nat.reduceAdd]
  repeat (first | refine S0 ?_ | refine S1 ?_ | refine S2 ?_ | refine S3 ?_ | refine S4 ?_ | refine S5 ?_ | refine S6 ?_ | refine S7 ?_ | refine S8 ?_ | refine S9 ?_ | refine S10 ?_ | refine S11 ?_ | refine S13 ?_ | refine S15 ?_ | refine S16 ?_ | refine S19 ?_ | refine S20 ?_ | refine S21 ?_ | refine S22 ?_ | refine S23 ?_ | refine S24 ?_ | refine S25 ?_ | refine S26 ?_ | refine S27 ?_ | refine S29 ?_ | refine S30 ?_ | refine S33 ?_ | refine S34 ?_ | refine S37 ?_ | refine S38 ?_ | refine S40 ?_ | refine S41 ?_ | refine S53 ?_ | refine S71 ?_ | refine S72 ?_)
  refine Scall (args := [pint n, pli w]) kc ?_
  repeat (first | refine S0 ?_ | refine S1 ?_ | refine S2 ?_ | refine S3 ?_ | refine S4 ?_ | refine S5 ?_ | refine S6 ?_ | refine S7 ?_ | refine S8 ?_ | refine S9 ?_ | refine S10 ?_ | refine S11 ?_ | refine S13 ?_ | refine S15 ?_ | refine S16 ?_ | refine S19 ?_ | refine S20 ?_ | refine S21 ?_ | refine S22 ?_ | refine S23 ?_ | refine S24 ?_ | refine S25 ?_ | refine S26 ?_ | refine S27 ?_ | refine S29 ?_ | refine S30 ?_ | refine S33 ?_ | refine S34 ?_ | refine S37 ?_ | refine S38 ?_ | refine S40 ?_ | refine S41 ?_ | refine S53 ?_ | refine S71 ?_ | refine S72 ?_)
  refine CW.loopS (fun i : Nat × (Nat → Nat) => i.1 ≤ n) (fun i => [(0, pint n), (1, pli w), (2, pint q), (9, .ref 0 0 1 n), (30, pint n), (31, pint i.1)]) (fun i hp => RowsI n i.1 0 i.2 (colR n q w 0 0) hp) (fun i => n - i.1) (0, fun _ => 0) ⟨Nat.zero_le _, SLx, RowsI.start HBx rfl (by show 0 < 2 * 1; decide)⟩ ?_
  rintro ⟨k, tk⟩ t hp hk R
  simp only at hk R
  first | simp only [updS] | simp only [updL, Nat.reduceAdd]
  by_cases hk2 : k < n
  · have b0 := R.out
    have l0 := R.ltT
    repeat (first | refine S0 ?_ | refine S1 ?_ | refine S2 ?_ | refine S3 ?_ | refine S4 ?_ | refine S5 ?_ | refine S6 ?_ | refine S7 ?_ | refine S8 ?_ | refine S9 ?_ | refine S10 ?_ | refine S11 ?_ | refine S13 ?_ | refine S15 ?_ | refine S16 ?_ | refine S19 ?_ | refine S20 ?_ | refine S21 ?_ | refine S22 ?_ | refine S23 ?_ | refine S24 ?_ | refine S25 ?_ | refine S26 ?_ | refine S27 ?_ | refine S29 ?_ | refine S30 ?_ | refine S33 ?_ | refine S34 ?_ | refine S37 ?_ | refine S38 ?_ | refine S40 ?_ | refine S41 ?_ | refine S53 ?_ | refine S71 ?_ | refine S72 ?_)
    obtain ⟨T', hT'⟩ : ∃ T', T' = hp.tok false := ⟨_, rfl⟩
    have hTn : T' = 2 * hp.next := by rw [hT', HP.tokF]
    rw [← hT', show 0 + (k : Int).toNat * 1 = k by simp]
    obtain ⟨X, hX⟩ : ∃ X, X = hp.add false (ints (List.replicate n 0)) := ⟨_, rfl⟩
    have hXT : X.blk T' = some (ints (List.replicate n 0)) := by rw [hX, hT']; exact HP.add_same _ _ _
    have hXb : ∀ t, t ≠ T' → X.blk t = hp.blk t := fun t ht => by rw [hX]; exact HP.add_other _ _ _ (by rw [← hT']; exact ht)
    have hXn : X.next = hp.next + 1 := by rw [hX]; rfl
    rw [← hX]
    refine AW.stR (r := (outI n tk (colR n q w 0 0) k).set k (.ref T' 0 1 n)) (by simp only [evA, upd, putA, ofConst, ofConst.ofCell, Nat.reduceEqDiff, ↓reduceIte, List.map_cons, List.map_nil, List.toList_toArray]; first | done | rfl) (by first | exact Or.inl rfl | exact Or.inr ⟨rfl, HP.tok_even _⟩ | exact Or.inr (Or.inl ⟨rfl, HP.tok_even _⟩) | exact Or.inr (Or.inr ⟨rfl, HP.tok_odd _⟩) | exact Or.inr (Or.inl rfl) | exact Or.inr (Or.inr (Or.inl rfl)) | exact Or.inr (Or.inr (Or.inr (Or.inl ⟨rfl, HP.tok_odd _⟩))) | exact Or.inr (Or.inr (Or.inr (Or.inr ⟨rfl, HP.tok_even _⟩))) | exact Or.inr (Or.inr (Or.inr (Or.inr ⟨rfl, by assumption⟩))) | exact Or.inr ⟨rfl, by assumption⟩ | exact Or.inr (Or.inl ⟨rfl, by assumption⟩) | exact Or.inr (Or.inr ⟨rfl, by assumption⟩) | exact Or.inr (Or.inr (Or.inr (Or.inl ⟨rfl, by assumption⟩))) | exact Or.inr (Or.inr (Or.inl ⟨rfl, HP.tok_odd _⟩)) | exact Or.inr (Or.inr (Or.inl ⟨rfl, by assumption⟩)) | exact Or.inr (Or.inr (Or.inr rfl)) | exact Or.inr (Or.inr rfl) | exact Or.inr rfl) (by simp only [evA, upd, putA, ofConst, ofConst.ofCell, Nat.reduceEqDiff, ↓reduceIte, List.map_cons, List.map_nil, List.toList_toArray]; first | done | rfl) rfl ((hXb 0 (by omega)).trans b0) (by rw [outI_len]; omega) (by first | rfl | (simp only [PV.one, pint, pfr]; done)) rfl ?_
    repeat (first | refine S0 ?_ | refine S1 ?_ | refine S2 ?_ | refine S3 ?_ | refine S4 ?_ | refine S5 ?_ | refine S6 ?_ | refine S7 ?_ | refine S8 ?_ | refine S9 ?_ | refine S10 ?_ | refine S11 ?_ | refine S13 ?_ | refine S15 ?_ | refine S16 ?_ | refine S19 ?_ | refine S20 ?_ | refine S21 ?_ | refine S22 ?_ | refine S23 ?_ | refine S24 ?_ | refine S25 ?_ | refine S26 ?_ | refine S27 ?_ | refine S29 ?_ | refine S30 ?_ | refine S33 ?_ | refine S34 ?_ | refine S37 ?_ | refine S38 ?_ | refine S40 ?_ | refine S41 ?_ | refine S53 ?_ | refine S71 ?_ | refine S72 ?_)
    refine ⟨(k + 1, ovr tk k T'), by simp only; omega, SLx, ?_, by simp only; omega⟩
    have := R.push (X := X.set 0 ((outI n tk (colR n q w 0 0) k).set k (.ref T' 0 1 n))) (r := colR n q w 0 0 k) hk2 (T' := T') (by omega) (by omega) (by show T' < 2 * X.next; omega) (by show hp.next ≤ X.next; omega) (by rw [colR_len]; exact HP.set_same _ _ _) (fun j hj => (HP.set_other _ _ (R.ne j hj)).trans (hXb _ (by have := R.lt j hj; omega))) (by rw [colR_zero]; exact (HP.set_other _ _ (by omega)).trans hXT)
    exact this.cong (fun j hj => by
      by_cases e : j = k
      · rw [e, ovr_same]
      · rw [ovr_ne _ _ e])
  · obtain rfl : k = n := by omega
    repeat (first | refine S0 ?_ | refine S1 ?_ | refine S2 ?_ | refine S3 ?_ | refine S4 ?_ | refine S5 ?_ | refine S6 ?_ | refine S7 ?_ | refine S8 ?_ | refine S9 ?_ | refine S10 ?_ | refine S11 ?_ | refine S13 ?_ | refine S15 ?_ | refine S16 ?_ | refine S19 ?_ | refine S20 ?_ | refine S21 ?_ | refine S22 ?_ | refine S23 ?_ | refine S24 ?_ | refine S25 ?_ | refine S26 ?_ | refine S27 ?_ | refine S29 ?_ | refine S30 ?_ | refine S33 ?_ | refine S34 ?_ | refine S37 ?_ | refine S38 ?_ | refine S40 ?_ | refine S41 ?_ | refine S53 ?_ | refine S71 ?_ | refine S72 ?_)
    refine CW.loopS (fun i : Nat => i ≤ k) (fun i => [(0, pint k), (1, pli w), (2, pint q), (9, .ref 0 0 1 k), (40, pint k), (41, pint i)]) (fun i hp => RowsI k k 0 tk (colR k q w i 0) hp) (fun i => k - i) 0 ⟨Nat.zero_le _, SLx, R⟩ ?_
    clear R hp t
    rintro i t hp hi R
    first | simp only [updS] | simp only [updL, Nat.reduceAdd]
    by_cases hi2 : i < k
    · have hcu := uniV_cols (n := k) (q := (q : Int)) (k := i) hqi.1 hi2
      have kp := (propagate_o hn6 hwl hwo hqi hcu).sc (by rw [ints_length, colW_len, hcu.1]; omega)
      have hpl : (colW q w (uniV k q i)).length = k := by rw [colW_len, hcu.1]
      rw [show PV.lst false 1 k (ints (colW q w (uniV k q i))) = pli (colW q w (uniV k q i)) by unfold pli; rw [hpl]] at kp
      repeat (first | refine S0 ?_ | refine S1 ?_ | refine S2 ?_ | refine S3 ?_ | refine S4 ?_ | refine S5 ?_ | refine S6 ?_ | refine S7 ?_ | refine S8 ?_ | refine S9 ?_ | refine S10 ?_ | refine S11 ?_ | refine S13 ?_ | refine S15 ?_ | refine S16 ?_ | refine S19 ?_ | refine S20 ?_ | refine S21 ?_ | refine S22 ?_ | refine S23 ?_ | refine S24 ?_ | refine S25 ?_ | refine S26 ?_ | refine S27 ?_ | refine S29 ?_ | refine S30 ?_ | refine S33 ?_ | refine S34 ?_ | refine S37 ?_ | refine S38 ?_ | refine S40 ?_ | refine S41 ?_ | refine S53 ?_ | refine S71 ?_ | refine S72 ?_)
      obtain ⟨T', hT'⟩ : ∃ T', T' = hp.tok false := ⟨_, rfl⟩
      have hTn : T' = 2 * hp.next := by rw [hT', HP.tokF]
      rw [← hT', show 0 + (i : Int).toNat * 1 = i by simp]
      refine AW.stR (r := ints (uniV k q i)) (by simp only [evA, upd, putA, ofConst, ofConst.ofCell, Nat.reduceEqDiff, ↓reduceIte, List.map_cons, List.map_nil, List.toList_toArray]; first | done | rfl) (by first | exact Or.inl rfl | exact Or.inr ⟨rfl, HP.tok_even _⟩ | exact Or.inr (Or.inl ⟨rfl, HP.tok_even _⟩) | exact Or.inr (Or.inr ⟨rfl, HP.tok_odd _⟩) | exact Or.inr (Or.inl rfl) | exact Or.inr (Or.inr (Or.inl rfl)) | exact Or.inr (Or.inr (Or.inr (Or.inl ⟨rfl, HP.tok_odd _⟩))) | exact Or.inr (Or.inr (Or.inr (Or.inr ⟨rfl, HP.tok_even _⟩))) | exact Or.inr (Or.inr (Or.inr (Or.inr ⟨rfl, by assumption⟩))) | exact Or.inr ⟨rfl, by assumption⟩ | exact Or.inr (Or.inl ⟨rfl, by assumption⟩) | exact Or.inr (Or.inr ⟨rfl, by assumption⟩) | exact Or.inr (Or.inr (Or.inr (Or.inl ⟨rfl, by assumption⟩))) | exact Or.inr (Or.inr (Or.inl ⟨rfl, HP.tok_odd _⟩)) | exact Or.inr (Or.inr (Or.inl ⟨rfl, by assumption⟩)) | exact Or.inr (Or.inr (Or.inr rfl)) | exact Or.inr (Or.inr rfl) | exact Or.inr rfl) (by simp only [evA, upd, putA, ofConst, ofConst.ofCell, Nat.reduceEqDiff, ↓reduceIte, List.map_cons, List.map_nil, List.toList_toArray]; first | done | rfl) rfl (by rw [hT']; exact HP.add_same _ _ _) (by rw [ints_length, List.length_replicate]; exact hi2) (by first | rfl | (simp only [PV.one, pint, pfr]; done)) (by unfold uniV; rw [← ints_set]) ?_
      refine AW.nil ?_
      refine TQ.nm ?_
      refine CW.freezeI (xs := uniV k q i) 12 (by rw [uniV_len]; rfl) (HP.set_same _ _ _) ?_
      obtain ⟨X, hX⟩ : ∃ X, X = ((hp.add false (ints (List.replicate k 0))).set T' (ints (uniV k q i))).kill T' := ⟨_, rfl⟩
      have hXb : ∀ t, t ≠ T' → X.blk t = hp.blk t := fun t ht => by rw [hX]; exact (HP.kill_other _ ht).trans ((HP.set_other _ _ ht).trans (HP.add_other _ _ _ (by rw [← hT']; exact ht)))
      have hXn : X.next = hp.next + 1 := by rw [hX]; rfl
      have RX : RowsI k k 0 tk (colR k q w i 0) X := R.keep (by omega) (fun t ht => hXb t (by
        rcases ht with rfl | ⟨j, hj, rfl⟩
        · have := R.ltT; omega
        · have := R.lt j hj; omega))
      rw [← hX]
      clear hX hXb hXn
      repeat (first | refine S0 ?_ | refine S1 ?_ | refine S2 ?_ | refine S3 ?_ | refine S4 ?_ | refine S5 ?_ | refine S6 ?_ | refine S7 ?_ | refine S8 ?_ | refine S9 ?_ | refine S10 ?_ | refine S11 ?_ | refine S13 ?_ | refine S15 ?_ | refine S16 ?_ | refine S19 ?_ | refine S20 ?_ | refine S21 ?_ | refine S22 ?_ | refine S23 ?_ | refine S24 ?_ | refine S25 ?_ | refine S26 ?_ | refine S27 ?_ | refine S29 ?_ | refine S30 ?_ | refine S33 ?_ | refine S34 ?_ | refine S37 ?_ | refine S38 ?_ | refine S40 ?_ | refine S41 ?_ | refine S53 ?_ | refine S71 ?_ | refine S72 ?_)
      refine Scall (args := [pli w, pli (uniV k q i), pint q]) kp ?_
      repeat (first | refine S0 ?_ | refine S1 ?_ | refine S2 ?_ | refine S3 ?_ | refine S4 ?_ | refine S5 ?_ | refine S6 ?_ | refine S7 ?_ | refine S8 ?_ | refine S9 ?_ | refine S10 ?_ | refine S11 ?_ | refine S13 ?_ | refine S15 ?_ | refine S16 ?_ | refine S19 ?_ | refine S20 ?_ | refine S21 ?_ | refine S22 ?_ | refine S23 ?_ | refine S24 ?_ | refine S25 ?_ | refine S26 ?_ | refine S27 ?_ | refine S29 ?_ | refine S30 ?_ | refine S33 ?_ | refine S34 ?_ | refine S37 ?_ | refine S38 ?_ | refine S40 ?_ | refine S41 ?_ | refine S53 ?_ | refine S71 ?_ | refine S72 ?_)
      rw [hpl]
      refine CW.loopS (fun j : Nat => j ≤ k) (fun j => [(0, pint k), (1, pli w), (2, pint q), (9, .ref 0 0 1 k), (40, pint k), (41, pint i), (11, pint i), (12, pli (uniV k q i)), (54, pli (colW q w (uniV k q i))), (55, pint k), (56, pint j)]) (fun j hp => RowsI k k 0 tk (colR k q w i j) hp) (fun j => k - j) 0 ⟨Nat.zero_le _, SLx, RX⟩ ?_
      clear RX R hp t X hT' hTn T'
      rintro j t hp hj R
      first | simp only [updS] | simp only [updL, Nat.reduceAdd]
      by_cases hj2 : j < k
      · have b0 := R.out
        have hul := uniV_len k (q : Int) i
        have hcb := (colW_cols hqi.1 w _ hwo hcu).2 j hj2
        have hub := hcu.2 j hj2
        have hrow := R.row j hj2
        have hev := R.ev j hj2
        have hset := colR_set (q := (q : Int)) (w := w) (i := j) hi2
        repeat (first | refine S0 ?_ | refine S1 ?_ | refine S2 ?_ | refine S3 ?_ | refine S4 ?_ | refine S5 ?_ | refine S6 ?_ | refine S7 ?_ | refine S8 ?_ | refine S9 ?_ | refine S10 ?_ | refine S11 ?_ | refine S13 ?_ | refine S15 ?_ | refine S16 ?_ | refine S19 ?_ | refine S20 ?_ | refine S21 ?_ | refine S22 ?_ | refine S23 ?_ | refine S24 ?_ | refine S25 ?_ | refine S26 ?_ | refine S27 ?_ | refine S29 ?_ | refine S30 ?_ | refine S33 ?_ | refine S34 ?_ | refine S37 ?_ | refine S38 ?_ | refine S40 ?_ | refine S41 ?_ | refine S53 ?_ | refine S71 ?_ | refine S72 ?_)
        rw [show 0 + (j : Int).toNat * 1 = j by simp]
        refine AW.ldm EVx (by first | exact Or.inl rfl | exact Or.inr ⟨rfl, HP.tok_even _⟩ | exact Or.inr (Or.inl ⟨rfl, HP.tok_even _⟩) | exact Or.inr (Or.inr ⟨rfl, HP.tok_odd _⟩) | exact Or.inr (Or.inl rfl) | exact Or.inr (Or.inr (Or.inl rfl)) | exact Or.inr (Or.inr (Or.inr (Or.inl ⟨rfl, HP.tok_odd _⟩))) | exact Or.inr (Or.inr (Or.inr (Or.inr ⟨rfl, HP.tok_even _⟩))) | exact Or.inr (Or.inr (Or.inr (Or.inr ⟨rfl, by assumption⟩))) | exact Or.inr ⟨rfl, by assumption⟩ | exact Or.inr (Or.inl ⟨rfl, by assumption⟩) | exact Or.inr (Or.inr ⟨rfl, by assumption⟩) | exact Or.inr (Or.inr (Or.inr (Or.inl ⟨rfl, by assumption⟩))) | exact Or.inr (Or.inr (Or.inl ⟨rfl, HP.tok_odd _⟩)) | exact Or.inr (Or.inr (Or.inl ⟨rfl, by assumption⟩)) | exact Or.inr (Or.inr (Or.inr rfl)) | exact Or.inr (Or.inr rfl) | exact Or.inr rfl) rfl b0 (outI_get hj2 hj2) ?_
        rw [colR_len]
        repeat (first | refine S0 ?_ | refine S1 ?_ | refine S2 ?_ | refine S3 ?_ | refine S4 ?_ | refine S5 ?_ | refine S6 ?_ | refine S7 ?_ | refine S8 ?_ | refine S9 ?_ | refine S10 ?_ | refine S11 ?_ | refine S13 ?_ | refine S15 ?_ | refine S16 ?_ | refine S19 ?_ | refine S20 ?_ | refine S21 ?_ | refine S22 ?_ | refine S23 ?_ | refine S24 ?_ | refine S25 ?_ | refine S26 ?_ | refine S27 ?_ | refine S29 ?_ | refine S30 ?_ | refine S33 ?_ | refine S34 ?_ | refine S37 ?_ | refine S38 ?_ | refine S40 ?_ | refine S41 ?_ | refine S53 ?_ | refine S71 ?_ | refine S72 ?_)
        rw [show 0 + (i : Int).toNat * 1 = i by simp]
        refine AW.stR (r := ints (colR k q w i (j + 1) j)) EVx (by first | exact Or.inl rfl | exact Or.inr ⟨rfl, HP.tok_even _⟩ | exact Or.inr (Or.inl ⟨rfl, HP.tok_even _⟩) | exact Or.inr (Or.inr ⟨rfl, HP.tok_odd _⟩) | exact Or.inr (Or.inl rfl) | exact Or.inr (Or.inr (Or.inl rfl)) | exact Or.inr (Or.inr (Or.inr (Or.inl ⟨rfl, HP.tok_odd _⟩))) | exact Or.inr (Or.inr (Or.inr (Or.inr ⟨rfl, HP.tok_even _⟩))) | exact Or.inr (Or.inr (Or.inr (Or.inr ⟨rfl, by assumption⟩))) | exact Or.inr ⟨rfl, by assumption⟩ | exact Or.inr (Or.inl ⟨rfl, by assumption⟩) | exact Or.inr (Or.inr ⟨rfl, by assumption⟩) | exact Or.inr (Or.inr (Or.inr (Or.inl ⟨rfl, by assumption⟩))) | exact Or.inr (Or.inr (Or.inl ⟨rfl, HP.tok_odd _⟩)) | exact Or.inr (Or.inr (Or.inl ⟨rfl, by assumption⟩)) | exact Or.inr (Or.inr (Or.inr rfl)) | exact Or.inr (Or.inr rfl) | exact Or.inr rfl) EVx rfl hrow (by rw [ints_length, colR_len]; exact hi2) (by first | rfl | (simp only [PV.one, pint, pfr]; done)) (by rw [← hset, ← ints_set]; rfl) ?_
        repeat (first | refine S0 ?_ | refine S1 ?_ | refine S2 ?_ | refine S3 ?_ | refine S4 ?_ | refine S5 ?_ | refine S6 ?_ | refine S7 ?_ | refine S8 ?_ | refine S9 ?_ | refine S10 ?_ | refine S11 ?_ | refine S13 ?_ | refine S15 ?_ | refine S16 ?_ | refine S19 ?_ | refine S20 ?_ | refine S21 ?_ | refine S22 ?_ | refine S23 ?_ | refine S24 ?_ | refine S25 ?_ | refine S26 ?_ | refine S27 ?_ | refine S29 ?_ | refine S30 ?_ | refine S33 ?_ | refine S34 ?_ | refine S37 ?_ | refine S38 ?_ | refine S40 ?_ | refine S41 ?_ | refine S53 ?_ | refine S71 ?_ | refine S72 ?_)
        refine ⟨j + 1, hj2, SLx, (R.turn hj2 (r := colR k q w i (j + 1) j) (by rw [colR_len, colR_len])).cong (fun x hx => ?_), by omega⟩
        by_cases e : x = j
        · rw [e, ovr_same]
        · rw [ovr_ne _ _ e, colR_ne e]
      · obtain rfl : j = k := by omega
        repeat (first | refine S0 ?_ | refine S1 ?_ | refine S2 ?_ | refine S3 ?_ | refine S4 ?_ | refine S5 ?_ | refine S6 ?_ | refine S7 ?_ | refine S8 ?_ | refine S9 ?_ | refine S10 ?_ | refine S11 ?_ | refine S13 ?_ | refine S15 ?_ | refine S16 ?_ | refine S19 ?_ | refine S20 ?_ | refine S21 ?_ | refine S22 ?_ | refine S23 ?_ | refine S24 ?_ | refine S25 ?_ | refine S26 ?_ | refine S27 ?_ | refine S29 ?_ | refine S30 ?_ | refine S33 ?_ | refine S34 ?_ | refine S37 ?_ | refine S38 ?_ | refine S40 ?_ | refine S41 ?_ | refine S53 ?_ | refine S71 ?_ | refine S72 ?_)
        refine ⟨i + 1, hi2, SLx, R.cong (fun j hj => colR_next hj), by omega⟩
    · obtain rfl : i = k := by omega
      refine CW.frzR R (fun h' hb' hf' => ?_)
      rw [show ((List.range i).map (colR i q w i 0)) = colL i q w from rfl] at hb'
      refine CW.freeze 9 (tk := 0) (off := 0) (sz := 1) (m := i) (v := plls (colL i q w)) rfl hb' (by simp [colL]) ?_ ?_
      · unfold plls
        rw [List.drop_zero, Nat.mul_one, colL_len]
        refine congrArg (PV.lst false 1 i) ?_
        rw [List.take_of_length_le (by simp [colL])]
      repeat (first | refine S0 ?_ | refine S1 ?_ | refine S2 ?_ | refine S3 ?_ | refine S4 ?_ | refine S5 ?_ | refine S6 ?_ | refine S7 ?_ | refine S8 ?_ | refine S9 ?_ | refine S10 ?_ | refine S11 ?_ | refine S13 ?_ | refine S15 ?_ | refine S16 ?_ | refine S19 ?_ | refine S20 ?_ | refine S21 ?_ | refine S22 ?_ | refine S23 ?_ | refine S24 ?_ | refine S25 ?_ | refine S26 ?_ | refine S27 ?_ | refine S29 ?_ | refine S30 ?_ | refine S33 ?_ | refine S34 ?_ | refine S37 ?_ | refine S38 ?_ | refine S40 ?_ | refine S41 ?_ | refine S53 ?_ | refine S71 ?_ | refine S72 ?_)
      refine Scall (args := [plls (colL i q w), pint q]) ks ?_
      repeat (first | refine S0 ?_ | refine S1 ?_ | refine S2 ?_ | refine S3 ?_ | refine S4 ?_ | refine S5 ?_ | refine S6 ?_ | refine S7 ?_ | refine S8 ?_ | refine S9 ?_ | refine S10 ?_ | refine S11 ?_ | refine S13 ?_ | refine S15 ?_ | refine S16 ?_ | refine S19 ?_ | refine S20 ?_ | refine S21 ?_ | refine S22 ?_ | refine S23 ?_ | refine S24 ?_ | refine S25 ?_ | refine S26 ?_ | refine S27 ?_ | refine S29 ?_ | refine S30 ?_ | refine S33 ?_ | refine S34 ?_ | refine S37 ?_ | refine S38 ?_ | refine S40 ?_ | refine S41 ?_ | refine S53 ?_ | refine S71 ?_ | refine S72 ?_)
      exact ⟨.inr rfl, .cl rfl⟩
end Go.Proofs.Ytgjfpmjllpgadaa
