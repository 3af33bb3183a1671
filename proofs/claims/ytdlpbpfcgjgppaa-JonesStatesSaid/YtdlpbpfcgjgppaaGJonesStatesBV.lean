/- Facts and contracts that the claim uses. No condition of its own. -/
import Derived.Test.YtdlpbpfcgjgppaaGJonesStatesBU
import Derived.Test.YtdlpbpfcgjgppaaGJonesStatesBI
set_option linter.unusedVariables false
set_option linter.unusedSimpArgs false
namespace Go.Proofs.Ytdlpbpfcgjgppaa
open Go.RowKit
set_option maxHeartbeats 4000000 in
set_option maxRecDepth 100000 in
theorem stackOut_s {n m i : Nat} (hn : n ≤ 1000) (hm : m ≤ 1000) (hi : i ≤ 10000) : SC Try.prog 58 [pint i, .lptr [pint n], .lptr [pint m]] (pint (outM n m i : Nat)) := by
  refine SC.go {} tok mixed Try.func58 rfl rfl Try.ntmps58 rfl rfl (by kernel_rfl) ?_
  have hmul : n * m ≤ 1000000 := Nat.mul_le_mul hn hm
  have hc : ((n : Int) * (m : Int)) = ((n * m : Nat) : Int) := by simp
  generalize n * m = nm at *
  first | simp only [updS] | simp only [updL, Nat.reduceAdd]
  by_cases c : i < n
  · repeat (first | refine S0 ?_ | refine S1 ?_ | refine S2 ?_ | refine S5 ?_ | refine S7 ?_ | refine S8 ?_ | refine S9 ?_ | refine S15 ?_ | refine S16 ?_ | refine S19 ?_ | refine S20 ?_ | refine S21 ?_ | refine S22 ?_ | refine S26 ?_ | refine S33 ?_ | refine S51 ?_)
    refine ⟨.inr rfl, ?_⟩
    unfold outM
    rw [if_pos c]
    exact .cl rfl
  · iterate 4 (first | refine S0 ?_ | refine S1 ?_ | refine S2 ?_ | refine S5 ?_ | refine S7 ?_ | refine S8 ?_ | refine S9 ?_ | refine S15 ?_ | refine S16 ?_ | refine S19 ?_ | refine S20 ?_ | refine S21 ?_ | refine S22 ?_ | refine S26 ?_ | refine S33 ?_ | refine S51 ?_)
    repeat (first | refine S0 ?_ | refine S1 ?_ | refine S2 ?_ | refine S5 ?_ | refine S7 ?_ | refine S8 ?_ | refine S9 ?_ | refine S15 ?_ | refine S16 ?_ | refine S19 ?_ | refine S20 ?_ | refine S21 ?_ | refine S22 ?_ | refine S26 ?_ | refine S33 ?_ | refine S51 ?_)
    refine ⟨.inr rfl, ?_⟩
    unfold outM
    rw [if_neg c, show ((n * m + i - n : Nat) : Int) = (n : Int) * (m : Int) + i - n by omega]
    exact .cl rfl
theorem pSt_succ (ps : List (Nat × Nat)) (s : Nat) (f : Nat → Nat) (k : Nat) : joinA id (ps ++ pSt s f (k + 1)) = joinR (joinA id (ps ++ pSt s f k)) (s + k) (s + f k) := by
  have : ps ++ pSt s f (k + 1) = (ps ++ pSt s f k) ++ [(s + k, s + f k)] := by
    unfold pSt
    rw [List.range_succ, List.map_append, List.append_assoc]
    rfl
  rw [this, joinA_snoc]
def tabS (n : Nat) (f : Nat → Nat → Nat) (m : Nat) : List (List Int) := (List.range m).map fun k => tabN (2 * n) (f k)
theorem tabS_get {n m k : Nat} {f : Nat → Nat → Nat} (h : k < m) : (tabS n f m).getD k [] = tabN (2 * n) (f k) := by
  unfold tabS
  simp [List.getD, h]
def rtM (r : Nat → Nat) (k : Nat) : MF := fun y => if ∃ i < k, y = ((r i : Nat) : Int) then some (.bool true) else none
theorem rtM_zero (r : Nat → Nat) : rtM r 0 = fun _ => none := by funext y; unfold rtM; rw [if_neg]; rintro ⟨i, h, _⟩; omega
theorem rtM_succ (r : Nat → Nat) (k : Nat) : (fun y => if y = ((r k : Nat) : Int) then some (Value.bool true) else rtM r k y) = rtM r (k + 1) := by
  funext y
  unfold rtM
  by_cases c : y = ((r k : Nat) : Int)
  · rw [if_pos c, if_pos ⟨k, by omega, c⟩]
  · rw [if_neg c]
    by_cases c2 : ∃ i < k, y = ((r i : Nat) : Int)
    · obtain ⟨i, h1, h2⟩ := c2
      rw [if_pos ⟨i, h1, h2⟩, if_pos ⟨i, by omega, h2⟩]
    · rw [if_neg c2, if_neg]
      rintro ⟨i, h1, h2⟩
      exact if e : i = k then c (e ▸ h2) else c2 ⟨i, by omega, h2⟩
def rtK (r : Nat → Nat) (k : Nat) : List Int := ((List.range k).filter fun x => r x = x).map fun (x : Nat) => (x : Int)
theorem rtK_len (r : Nat → Nat) : ∀ k, (rtK r k).length = sN (fun x => ind (r x = x)) k
  | 0 => rfl
  | k + 1 => by
    have ih := rtK_len r k
    unfold rtK at ih ⊢
    rw [List.range_succ, List.filter_append, List.map_append, List.length_append, ih]
    show _ = sN (fun x => ind (r x = x)) k + ind (r k = k)
    by_cases c : r k = k
    · rw [ind_pos c]; simp [c]
    · rw [ind_neg c]; simp [c]
theorem rtK_nodup (r : Nat → Nat) (k : Nat) : (rtK r k).Nodup := by
  unfold rtK
  have : ((List.range k).filter fun x => r x = x).Nodup := List.nodup_range.filter _
  unfold List.Nodup at *
  rw [List.pairwise_map]
  exact this.imp fun h e => h (by omega)
theorem rtK_mem {r : Nat → Nat} {k : Nat} (hr : ∀ x, x < k → r x < k ∧ r (r x) = r x) (y : Int) : y ∈ rtK r k ↔ rtM r k y ≠ none := by
  unfold rtK rtM
  constructor
  · intro h
    obtain ⟨x, hx, rfl⟩ := List.mem_map.1 h
    obtain ⟨h1, h2⟩ := List.mem_filter.1 hx
    rw [if_pos ⟨x, List.mem_range.1 h1, by simp at h2; omega⟩]
    simp
  · intro h
    split at h
    · rename_i hh
      obtain ⟨i, h1, rfl⟩ := hh
      obtain ⟨h2, h3⟩ := hr i h1
      exact List.mem_map.2 ⟨r i, List.mem_filter.2 ⟨List.mem_range.2 h2, by simpa using h3⟩, rfl⟩
    · exact absurd rfl h
theorem Fz.pairQ {h : HP} {a b a' b' : PV} (h1 : Fz h a a') (h2 : Fz h b b') : Fz h (.tup [a, b]) (.tup [a', b']) :=
  .tup rfl (fun i hi => by
    match i, hi with
    | 0, _ => exact h1
    | 1, _ => exact h2
    | i + 2, h => simp at h; omega)
def dT (n : Nat) (o : Nat → Nat) (i k : Nat) : List Int := tabN (2 * n) fun x => if x < i ∨ (x = i ∧ o x < k) then o x else 0
theorem dT_len (n : Nat) (o : Nat → Nat) (i k : Nat) : (dT n o i k).length = 2 * n := tab_len _ _
theorem dT_zero (n : Nat) (o : Nat → Nat) : dT n o 0 0 = List.replicate (2 * n) 0 := by
  unfold dT tabN
  apply List.ext_getElem (by simp)
  intro x h1 h2
  simp
theorem dT_skip {n : Nat} {o : Nat → Nat} {i k : Nat} (h : o i ≠ k) : dT n o i (k + 1) = dT n o i k := by
  refine tab_ext fun x _ => ?_
  by_cases c : x < i ∨ (x = i ∧ o x < k)
  · rw [if_pos c, if_pos (by omega)]
  · rw [if_neg c, if_neg]
    rintro (h1 | ⟨rfl, h2⟩) <;> omega
theorem dT_set {n : Nat} {o : Nat → Nat} {i k : Nat} (h : o i = k) : (dT n o i k).set i (k : Int) = dT n o i (k + 1) := by
  unfold dT tabN
  apply List.ext_getElem (by simp)
  intro x h1 h2
  rw [List.getElem_set]
  simp only [List.getElem_map, List.getElem_range]
  by_cases c : i = x
  · subst c
    rw [if_pos rfl, if_pos (by omega), h]
  · rw [if_neg c]
    by_cases c2 : x < i
    · rw [if_pos (.inl c2), if_pos (.inl c2)]
    · rw [if_neg (by omega), if_neg (by omega)]
theorem dT_row {n : Nat} {o : Nat → Nat} {i : Nat} (ho : ∀ x, x < 2 * n → o x < 2 * n) : dT n o i (2 * n) = dT n o (i + 1) 0 := by
  refine tab_ext fun x hx => ?_
  have := ho x hx
  by_cases c : x < i + 1
  · rw [if_pos (by omega), if_pos (by omega)]
  · rw [if_neg (by omega), if_neg (by omega)]
theorem dT_all (n : Nat) (o : Nat → Nat) : dT n o (2 * n) 0 = tabN (2 * n) o := tab_ext fun x hx => if_pos (.inl hx)
set_option maxHeartbeats 40000000 in
set_option maxRecDepth 100000 in
theorem stack_s {cl : Bool} {n m : Nat} {f : Nat → Nat → Nat} {o : Nat → Nat} {c : Nat} (hn : 1 ≤ n ∧ n ≤ 6) (hm : m ≤ 12) (hf : ∀ k, k < m → Mt n (f k)) {r : Nat → Nat} (hrd : r = joinA id (ppK n f m)) (hrr : ∀ x, x < n * (m + 1) → r x < n * (m + 1) ∧ r (r x) = r x)
    (key : ∀ i, i < 2 * n → o i < 2 * n ∧ o i ≠ i ∧ r (outM n m i) = r (outM n m (o i)) ∧ ∀ k', k' < 2 * n → k' ≠ i → r (outM n m i) = r (outM n m k') → k' = o i) (hc : sN (fun x => ind (r x = x)) (n * (m + 1)) = n + c) :
    SC Try.prog 32 [pint n, .lst cl 1 m ((tabS n f m).map pli)] (.tup [pli (tabN (2 * n) o), pint c]) := by
  have hN : n * (m + 1) ≤ 78 := Nat.le_trans (Nat.mul_le_mul hn.2 (Nat.add_le_add_right hm 1)) (by omega)
  have hNe : n * (m + 1) = n * m + n := by rw [Nat.mul_add, Nat.mul_one]
  obtain ⟨N, hNd⟩ : ∃ N, N = n * (m + 1) := ⟨_, rfl⟩
  rw [← hNd] at hN hc hrr
  have hls : (tabS n f m).length = m := by simp [tabS]
  have kp := points_o N (by omega)
  have eN : ((n : Int) * ((m : Int) + 1)) = (N : Int) := by rw [hNd]; simp
  have qN : in64 ((n : Int) * ((m : Int) + 1)) := by rw [eN]; exact in64_of (by omega)
  refine SC.go {} tok mixed Try.func32 rfl rfl Try.ntmps32 rfl rfl (by kernel_rfl) ?_
  first | simp only [updS] | simp only [updL, Nat.reduceAdd]
  repeat (first | refine S0 ?_ | refine S1 ?_ | refine S2 ?_ | refine S3 ?_ | refine S4 ?_ | refine S5 ?_ | refine S6 ?_ | refine S7 ?_ | refine S8 ?_ | refine S10 ?_ | refine S11 ?_ | refine S13 ?_ | refine S15 ?_ | refine S16 ?_ | refine S19 ?_ | refine S20 ?_ | refine S21 ?_ | refine S22 ?_ | refine S23 ?_ | refine S24 ?_ | refine S25 ?_ | refine S26 ?_ | refine S27 ?_ | refine S28 ?_ | refine S29 ?_ | refine S33 ?_ | refine S37 ?_ | refine S38 ?_ | refine S40 ?_ | refine S41 ?_ | refine S46 ?_ | refine S51 ?_ | refine S56 ?_ | refine S65 ?_ | refine S68 ?_ | refine S71 ?_ | refine S73 ?_ | refine S80 ?_ | refine S81 ?_)
  rw [eN]
  refine Scallo (args := [pint (N : Nat)]) kp ?_
  iterate 3 (first | refine S0 ?_ | refine S1 ?_ | refine S2 ?_ | refine S3 ?_ | refine S4 ?_ | refine S5 ?_ | refine S6 ?_ | refine S7 ?_ | refine S8 ?_ | refine S10 ?_ | refine S11 ?_ | refine S13 ?_ | refine S15 ?_ | refine S16 ?_ | refine S19 ?_ | refine S20 ?_ | refine S21 ?_ | refine S22 ?_ | refine S23 ?_ | refine S24 ?_ | refine S25 ?_ | refine S26 ?_ | refine S27 ?_ | refine S28 ?_ | refine S29 ?_ | refine S33 ?_ | refine S37 ?_ | refine S38 ?_ | refine S40 ?_ | refine S41 ?_ | refine S46 ?_ | refine S51 ?_ | refine S56 ?_ | refine S65 ?_ | refine S68 ?_ | refine S71 ?_ | refine S73 ?_ | refine S80 ?_ | refine S81 ?_)
  refine CW.freezeP 6 (tk := 1) rfl HBx ?_
  repeat (first | refine S0 ?_ | refine S1 ?_ | refine S2 ?_ | refine S3 ?_ | refine S4 ?_ | refine S5 ?_ | refine S6 ?_ | refine S7 ?_ | refine S8 ?_ | refine S10 ?_ | refine S11 ?_ | refine S13 ?_ | refine S15 ?_ | refine S16 ?_ | refine S19 ?_ | refine S20 ?_ | refine S21 ?_ | refine S22 ?_ | refine S23 ?_ | refine S24 ?_ | refine S25 ?_ | refine S26 ?_ | refine S27 ?_ | refine S28 ?_ | refine S29 ?_ | refine S33 ?_ | refine S37 ?_ | refine S38 ?_ | refine S40 ?_ | refine S41 ?_ | refine S46 ?_ | refine S51 ?_ | refine S56 ?_ | refine S65 ?_ | refine S68 ?_ | refine S71 ?_ | refine S73 ?_ | refine S80 ?_ | refine S81 ?_)
  refine CW.loopS (fun i : Nat × List Int => i.1 ≤ m ∧ Uf i.2 N (joinA id (ppK n f i.1))) (fun i => [(2, .lptr [pint n]), (6, .lptr [pint m]), (7, .ref 2 0 1 N), (25, .lst cl 1 m ((tabS n f m).map pli)), (26, pint m), (27, pint i.1)])
    (fun i hp => hp.blk 2 = some (ints i.2) ∧ 2 ≤ hp.next) (fun i => m - i.1) (0, tabN N id) ⟨⟨Nat.zero_le _, uf_start N⟩, SLx, HBx, (by first | omega | (simp only [HP.tokF, HP.tokT, HP.next_add, HP.next_set, HP.next_kill, HP.next_H0, HP.next_addS, HP.next_setS, HP.next_killS, HP.next_put, HP.next_bump, HP.next_putS]; omega))⟩ ?_
  rintro ⟨k, js⟩ t hp ⟨hk, hU⟩ ⟨hB, hnx⟩
  simp only at hk hU hB
  first | simp only [updS] | simp only [updL, Nat.reduceAdd]
  by_cases hk2 : k < m
  · have hkn : k * n + 2 * n ≤ N := by
      have : (k + 1) * n ≤ m * n := Nat.mul_le_mul_right _ hk2
      rw [Nat.add_mul, Nat.one_mul, Nat.mul_comm m n] at this
      omega
    have hfk := hf k hk2
    have eg : (tabS n f m).getD k [] = tabN (2 * n) (f k) := tabS_get hk2
    have l1 : (tabN (2 * n) (f k)).length = 2 * n := tab_len _ _
    repeat (first | refine S0 ?_ | refine S1 ?_ | refine S2 ?_ | refine S3 ?_ | refine S4 ?_ | refine S5 ?_ | refine S6 ?_ | refine S7 ?_ | refine S8 ?_ | refine S10 ?_ | refine S11 ?_ | refine S13 ?_ | refine S15 ?_ | refine S16 ?_ | refine S19 ?_ | refine S20 ?_ | refine S21 ?_ | refine S22 ?_ | refine S23 ?_ | refine S24 ?_ | refine S25 ?_ | refine S26 ?_ | refine S27 ?_ | refine S28 ?_ | refine S29 ?_ | refine S33 ?_ | refine S37 ?_ | refine S38 ?_ | refine S40 ?_ | refine S41 ?_ | refine S46 ?_ | refine S51 ?_ | refine S56 ?_ | refine S65 ?_ | refine S68 ?_ | refine S71 ?_ | refine S73 ?_ | refine S80 ?_ | refine S81 ?_)
    rw [eg]
    repeat (first | refine S0 ?_ | refine S1 ?_ | refine S2 ?_ | refine S3 ?_ | refine S4 ?_ | refine S5 ?_ | refine S6 ?_ | refine S7 ?_ | refine S8 ?_ | refine S10 ?_ | refine S11 ?_ | refine S13 ?_ | refine S15 ?_ | refine S16 ?_ | refine S19 ?_ | refine S20 ?_ | refine S21 ?_ | refine S22 ?_ | refine S23 ?_ | refine S24 ?_ | refine S25 ?_ | refine S26 ?_ | refine S27 ?_ | refine S28 ?_ | refine S29 ?_ | refine S33 ?_ | refine S37 ?_ | refine S38 ?_ | refine S40 ?_ | refine S41 ?_ | refine S46 ?_ | refine S51 ?_ | refine S56 ?_ | refine S65 ?_ | refine S68 ?_ | refine S71 ?_ | refine S73 ?_ | refine S80 ?_ | refine S81 ?_)
    rw [l1]
    obtain ⟨kn, hkd⟩ : ∃ kn, kn = k * n := ⟨_, rfl⟩
    have eK : ((k : Int) * (n : Int)) = (kn : Int) := by rw [hkd]; simp
    rw [← hkd] at hkn
    refine CW.loopS (fun i : Nat × List Int => i.1 ≤ 2 * n ∧ Uf i.2 N (joinA id (ppK n f k ++ pSt kn (f k) i.1))) (fun i => [(2, .lptr [pint n]), (6, .lptr [pint m]), (7, .ref 2 0 1 N), (25, .lst cl 1 m ((tabS n f m).map pli)), (26, pint m), (27, pint k), (8, pint k), (32, pli (tabN (2 * n) (f k))), (33, pint (2 * n : Nat)), (34, pint i.1)])
      (fun i hp => hp.blk 2 = some (ints i.2) ∧ 2 ≤ hp.next) (fun i => 2 * n - i.1) (0, js) ⟨⟨Nat.zero_le _, by simpa [pSt] using hU⟩, SLx, hB, hnx⟩ ?_
    clear hU hB hnx hp js
    rintro ⟨i, js⟩ t hp ⟨hi, hU⟩ ⟨hB, hnx⟩
    simp only at hi hU hB
    first | simp only [updS] | simp only [updL, Nat.reduceAdd]
    have qK : in64 ((k : Int) * (n : Int)) := by rw [eK]; exact in64_of (by omega)
    have qA : in64 ((k : Int) * (n : Int) + (i : Int)) := by rw [eK]; exact in64_of (by omega)
    by_cases hi2 : i < 2 * n
    · have hfi : (tabN (2 * n) (f k)).getD i 0 = (f k i : Int) := tabN_get hi2
      have h1 := hfk.lt i hi2
      have qB : in64 ((k : Int) * (n : Int) + (tabN (2 * n) (f k)).getD i 0) := by rw [eK, hfi]; exact in64_of (by omega)
      have hj := join_e hU (by omega) (x := kn + i) (y := kn + f k i) (by omega) (by omega) hB
      repeat (first | refine S0 ?_ | refine S1 ?_ | refine S2 ?_ | refine S3 ?_ | refine S4 ?_ | refine S5 ?_ | refine S6 ?_ | refine S7 ?_ | refine S8 ?_ | refine S10 ?_ | refine S11 ?_ | refine S13 ?_ | refine S15 ?_ | refine S16 ?_ | refine S19 ?_ | refine S20 ?_ | refine S21 ?_ | refine S22 ?_ | refine S23 ?_ | refine S24 ?_ | refine S25 ?_ | refine S26 ?_ | refine S27 ?_ | refine S28 ?_ | refine S29 ?_ | refine S33 ?_ | refine S37 ?_ | refine S38 ?_ | refine S40 ?_ | refine S41 ?_ | refine S46 ?_ | refine S51 ?_ | refine S56 ?_ | refine S65 ?_ | refine S68 ?_ | refine S71 ?_ | refine S73 ?_ | refine S80 ?_ | refine S81 ?_)
      rw [hfi, eK, show ((kn : Int) + (i : Int) : Int) = ((kn + i : Nat) : Int) by omega, show ((kn : Int) + (f k i : Int) : Int) = ((kn + f k i : Nat) : Int) by omega]
      refine Scalle (args := [.ref 2 0 1 N, pint (kn + i : Nat), pint (kn + f k i : Nat)]) hj ?_
      rintro v X ⟨hb2, hF⟩
      have hU2 := hU.join (x := kn + i) (y := kn + f k i) (by omega) (by omega)
      have hnx2 := hF.next
      repeat (first | refine S0 ?_ | refine S1 ?_ | refine S2 ?_ | refine S3 ?_ | refine S4 ?_ | refine S5 ?_ | refine S6 ?_ | refine S7 ?_ | refine S8 ?_ | refine S10 ?_ | refine S11 ?_ | refine S13 ?_ | refine S15 ?_ | refine S16 ?_ | refine S19 ?_ | refine S20 ?_ | refine S21 ?_ | refine S22 ?_ | refine S23 ?_ | refine S24 ?_ | refine S25 ?_ | refine S26 ?_ | refine S27 ?_ | refine S28 ?_ | refine S29 ?_ | refine S33 ?_ | refine S37 ?_ | refine S38 ?_ | refine S40 ?_ | refine S41 ?_ | refine S46 ?_ | refine S51 ?_ | refine S56 ?_ | refine S65 ?_ | refine S68 ?_ | refine S71 ?_ | refine S73 ?_ | refine S80 ?_ | refine S81 ?_)
      exact ⟨(i + 1, _), ⟨hi2, by simp only; rw [pSt_succ]; exact hU2⟩, SLx, ⟨hb2, (by first | omega | (simp only [HP.tokF, HP.tokT, HP.next_add, HP.next_set, HP.next_kill, HP.next_H0, HP.next_addS, HP.next_setS, HP.next_killS, HP.next_put, HP.next_bump, HP.next_putS]; omega))⟩, by simp only; omega⟩
    · obtain rfl : i = 2 * n := by omega
      repeat (first | refine S0 ?_ | refine S1 ?_ | refine S2 ?_ | refine S3 ?_ | refine S4 ?_ | refine S5 ?_ | refine S6 ?_ | refine S7 ?_ | refine S8 ?_ | refine S10 ?_ | refine S11 ?_ | refine S13 ?_ | refine S15 ?_ | refine S16 ?_ | refine S19 ?_ | refine S20 ?_ | refine S21 ?_ | refine S22 ?_ | refine S23 ?_ | refine S24 ?_ | refine S25 ?_ | refine S26 ?_ | refine S27 ?_ | refine S28 ?_ | refine S29 ?_ | refine S33 ?_ | refine S37 ?_ | refine S38 ?_ | refine S40 ?_ | refine S41 ?_ | refine S46 ?_ | refine S51 ?_ | refine S56 ?_ | refine S65 ?_ | refine S68 ?_ | refine S71 ?_ | refine S73 ?_ | refine S80 ?_ | refine S81 ?_)
      exact ⟨(k + 1, js), ⟨hk2, by rw [hkd] at hU; exact hU⟩, SLx, ⟨hB, hnx⟩, by simp only; omega⟩
  · obtain rfl : k = m := by omega
    rw [← hrd] at hU
    have hjl := hU.len
    repeat (first | refine S0 ?_ | refine S1 ?_ | refine S2 ?_ | refine S3 ?_ | refine S4 ?_ | refine S5 ?_ | refine S6 ?_ | refine S7 ?_ | refine S8 ?_ | refine S10 ?_ | refine S11 ?_ | refine S13 ?_ | refine S15 ?_ | refine S16 ?_ | refine S19 ?_ | refine S20 ?_ | refine S21 ?_ | refine S22 ?_ | refine S23 ?_ | refine S24 ?_ | refine S25 ?_ | refine S26 ?_ | refine S27 ?_ | refine S28 ?_ | refine S29 ?_ | refine S33 ?_ | refine S37 ?_ | refine S38 ?_ | refine S40 ?_ | refine S41 ?_ | refine S46 ?_ | refine S51 ?_ | refine S56 ?_ | refine S65 ?_ | refine S68 ?_ | refine S71 ?_ | refine S73 ?_ | refine S80 ?_ | refine S81 ?_)
    obtain ⟨T, hT⟩ : ∃ T, T = hp.tok true := ⟨_, rfl⟩
    have hT2 : T = 2 * hp.next + 1 := by rw [hT]; rfl
    refine CW.loopS (fun i : Nat => i ≤ N) (fun i => [(2, .lptr [pint n]), (12, .clo 58 [.lptr [pint n], .lptr [pint k]]), (13, .mref T), (7, .ref 2 0 1 N), (56, pint N), (57, pint i)])
      (fun i h => h.blk 2 = some (ints js) ∧ h.sp T = some (.map (rtM r i)) ∧ T < 2 * h.next) (fun i => N - i) 0 ⟨Nat.zero_le _, by subst hT; exact SLx, by rw [rtM_zero]; subst hT; exact ⟨HBx, SBx, (by first | omega | (simp only [HP.tokF, HP.tokT, HP.next_add, HP.next_set, HP.next_kill, HP.next_H0, HP.next_addS, HP.next_setS, HP.next_killS, HP.next_put, HP.next_bump, HP.next_putS]; omega))⟩⟩ ?_
    clear hB hnx
    rintro i t hp hi ⟨hB, hS, hnx⟩
    first | simp only [updS] | simp only [updL, Nat.reduceAdd]
    by_cases hi2 : i < N
    · repeat (first | refine S0 ?_ | refine S1 ?_ | refine S2 ?_ | refine S3 ?_ | refine S4 ?_ | refine S5 ?_ | refine S6 ?_ | refine S7 ?_ | refine S8 ?_ | refine S10 ?_ | refine S11 ?_ | refine S13 ?_ | refine S15 ?_ | refine S16 ?_ | refine S19 ?_ | refine S20 ?_ | refine S21 ?_ | refine S22 ?_ | refine S23 ?_ | refine S24 ?_ | refine S25 ?_ | refine S26 ?_ | refine S27 ?_ | refine S28 ?_ | refine S29 ?_ | refine S33 ?_ | refine S37 ?_ | refine S38 ?_ | refine S40 ?_ | refine S41 ?_ | refine S46 ?_ | refine S51 ?_ | refine S56 ?_ | refine S65 ?_ | refine S68 ?_ | refine S71 ?_ | refine S73 ?_ | refine S80 ?_ | refine S81 ?_)
      refine Scalle (args := [.ref 2 0 1 N, pint i]) (at_e hU (by omega) hi2 hB) ?_
      rintro v X ⟨rfl, hb2, hF⟩
      have hnx2 := hF.next
      have hS2 : X.sp T = some (.map (rtM r i)) := by rw [hF.sp T hnx (by simp)]; exact hS
      repeat (first | refine S0 ?_ | refine S1 ?_ | refine S2 ?_ | refine S3 ?_ | refine S4 ?_ | refine S5 ?_ | refine S6 ?_ | refine S7 ?_ | refine S8 ?_ | refine S10 ?_ | refine S11 ?_ | refine S13 ?_ | refine S15 ?_ | refine S16 ?_ | refine S19 ?_ | refine S20 ?_ | refine S21 ?_ | refine S22 ?_ | refine S23 ?_ | refine S24 ?_ | refine S25 ?_ | refine S26 ?_ | refine S27 ?_ | refine S28 ?_ | refine S29 ?_ | refine S33 ?_ | refine S37 ?_ | refine S38 ?_ | refine S40 ?_ | refine S41 ?_ | refine S46 ?_ | refine S51 ?_ | refine S56 ?_ | refine S65 ?_ | refine S68 ?_ | refine S71 ?_ | refine S73 ?_ | refine S80 ?_ | refine S81 ?_)
      rw [rtM_succ]
      exact ⟨i + 1, hi2, SLx, ⟨HBx, SBx, (by first | omega | (simp only [HP.tokF, HP.tokT, HP.next_add, HP.next_set, HP.next_kill, HP.next_H0, HP.next_addS, HP.next_setS, HP.next_killS, HP.next_put, HP.next_bump, HP.next_putS]; omega))⟩, by omega⟩
    · obtain rfl : i = N := by omega
      refine CW.freezeM 13 (tk := T) (m := rtM r i) rfl hS ?_
      refine CW.freezeI (xs := js) 7 (by rw [hjl]; rfl) (by exact hB) ?_
      clear hB hS
      repeat (first | refine S0 ?_ | refine S1 ?_ | refine S2 ?_ | refine S3 ?_ | refine S4 ?_ | refine S5 ?_ | refine S6 ?_ | refine S7 ?_ | refine S8 ?_ | refine S10 ?_ | refine S11 ?_ | refine S13 ?_ | refine S15 ?_ | refine S16 ?_ | refine S19 ?_ | refine S20 ?_ | refine S21 ?_ | refine S22 ?_ | refine S23 ?_ | refine S24 ?_ | refine S25 ?_ | refine S26 ?_ | refine S27 ?_ | refine S28 ?_ | refine S29 ?_ | refine S33 ?_ | refine S37 ?_ | refine S38 ?_ | refine S40 ?_ | refine S41 ?_ | refine S46 ?_ | refine S51 ?_ | refine S56 ?_ | refine S65 ?_ | refine S68 ?_ | refine S71 ?_ | refine S73 ?_ | refine S80 ?_ | refine S81 ?_)
      obtain ⟨D, hD⟩ : ∃ D, D = ((hp.killS T).kill 2).tok false := ⟨_, rfl⟩
      have hD2 : D = 2 * hp.next := by rw [hD]; rfl
      have hol : ∀ x, x < 2 * n → o x < 2 * n := fun x hx => (key x hx).1
      have hou : ∀ x, x < 2 * n → outM n k x < i := fun x hx => by
        unfold outM
        split <;> omega
      refine CW.loopS (fun x : Nat => x ≤ 2 * n) (fun x => [(2, .lptr [pint n]), (7, pli js), (12, .clo 58 [.lptr [pint n], .lptr [pint k]]), (13, .fmap (rtM r i)), (15, .ref D 0 1 (2 * n)), (69, pint (2 * n : Nat)), (70, pint x)])
        (fun x h => h.blk D = some (ints (dT n o x 0)) ∧ D < 2 * h.next) (fun x => 2 * n - x) 0 ⟨Nat.zero_le _, by subst hD; exact SLx, by rw [dT_zero]; subst hD; exact ⟨HBx, (by first | omega | (simp only [HP.tokF, HP.tokT, HP.next_add, HP.next_set, HP.next_kill, HP.next_H0, HP.next_addS, HP.next_setS, HP.next_killS, HP.next_put, HP.next_bump, HP.next_putS]; omega))⟩⟩ ?_
      clear hnx hD2 hD hT2 hT hi2 hi
      clear hp
      rintro x t hp hx ⟨hB, hnx⟩
      first | simp only [updS] | simp only [updL, Nat.reduceAdd]
      by_cases hx2 : x < 2 * n
      · repeat (first | refine S0 ?_ | refine S1 ?_ | refine S2 ?_ | refine S3 ?_ | refine S4 ?_ | refine S5 ?_ | refine S6 ?_ | refine S7 ?_ | refine S8 ?_ | refine S10 ?_ | refine S11 ?_ | refine S13 ?_ | refine S15 ?_ | refine S16 ?_ | refine S19 ?_ | refine S20 ?_ | refine S21 ?_ | refine S22 ?_ | refine S23 ?_ | refine S24 ?_ | refine S25 ?_ | refine S26 ?_ | refine S27 ?_ | refine S28 ?_ | refine S29 ?_ | refine S33 ?_ | refine S37 ?_ | refine S38 ?_ | refine S40 ?_ | refine S41 ?_ | refine S46 ?_ | refine S51 ?_ | refine S56 ?_ | refine S65 ?_ | refine S68 ?_ | refine S71 ?_ | refine S73 ?_ | refine S80 ?_ | refine S81 ?_)
        refine CW.loopS (fun y : Nat => y ≤ 2 * n) (fun y => [(2, .lptr [pint n]), (7, pli js), (12, .clo 58 [.lptr [pint n], .lptr [pint k]]), (13, .fmap (rtM r i)), (15, .ref D 0 1 (2 * n)), (69, pint (2 * n : Nat)), (70, pint x), (16, pint x), (74, pint (2 * n : Nat)), (75, pint y)])
          (fun y h => h.blk D = some (ints (dT n o x y)) ∧ D < 2 * h.next) (fun y => 2 * n - y) 0 ⟨Nat.zero_le _, SLx, hB, hnx⟩ ?_
        clear hB hnx hp
        rintro y t hp hy ⟨hB, hnx⟩
        first | simp only [updS] | simp only [updL, Nat.reduceAdd]
        by_cases hy2 : y < 2 * n
        · obtain ⟨k1, k2, k3, k4⟩ := key x hx2
          have hdl := dT_len n o x y
          by_cases hxy : x = y
          · subst hxy
            repeat (first | refine S0 ?_ | refine S1 ?_ | refine S2 ?_ | refine S3 ?_ | refine S4 ?_ | refine S5 ?_ | refine S6 ?_ | refine S7 ?_ | refine S8 ?_ | refine S10 ?_ | refine S11 ?_ | refine S13 ?_ | refine S15 ?_ | refine S16 ?_ | refine S19 ?_ | refine S20 ?_ | refine S21 ?_ | refine S22 ?_ | refine S23 ?_ | refine S24 ?_ | refine S25 ?_ | refine S26 ?_ | refine S27 ?_ | refine S28 ?_ | refine S29 ?_ | refine S33 ?_ | refine S37 ?_ | refine S38 ?_ | refine S40 ?_ | refine S41 ?_ | refine S46 ?_ | refine S51 ?_ | refine S56 ?_ | refine S65 ?_ | refine S68 ?_ | refine S71 ?_ | refine S73 ?_ | refine S80 ?_ | refine S81 ?_)
            exact ⟨x + 1, hx2, SLx, by rw [dT_skip (by omega)]; exact ⟨HBx, (by first | omega | (simp only [HP.tokF, HP.tokT, HP.next_add, HP.next_set, HP.next_kill, HP.next_H0, HP.next_addS, HP.next_setS, HP.next_killS, HP.next_put, HP.next_bump, HP.next_putS]; omega))⟩, by omega⟩
          · repeat (first | refine S0 ?_ | refine S1 ?_ | refine S2 ?_ | refine S3 ?_ | refine S4 ?_ | refine S5 ?_ | refine S6 ?_ | refine S7 ?_ | refine S8 ?_ | refine S10 ?_ | refine S11 ?_ | refine S13 ?_ | refine S15 ?_ | refine S16 ?_ | refine S19 ?_ | refine S20 ?_ | refine S21 ?_ | refine S22 ?_ | refine S23 ?_ | refine S24 ?_ | refine S25 ?_ | refine S26 ?_ | refine S27 ?_ | refine S28 ?_ | refine S29 ?_ | refine S33 ?_ | refine S37 ?_ | refine S38 ?_ | refine S40 ?_ | refine S41 ?_ | refine S46 ?_ | refine S51 ?_ | refine S56 ?_ | refine S65 ?_ | refine S68 ?_ | refine S71 ?_ | refine S73 ?_ | refine S80 ?_ | refine S81 ?_)
            refine Scallv (args := [pint x, .lptr [pint n], .lptr [pint k]]) (stackOut_s (by omega) (by omega) (by omega)) ?_
            repeat (first | refine S0 ?_ | refine S1 ?_ | refine S2 ?_ | refine S3 ?_ | refine S4 ?_ | refine S5 ?_ | refine S6 ?_ | refine S7 ?_ | refine S8 ?_ | refine S10 ?_ | refine S11 ?_ | refine S13 ?_ | refine S15 ?_ | refine S16 ?_ | refine S19 ?_ | refine S20 ?_ | refine S21 ?_ | refine S22 ?_ | refine S23 ?_ | refine S24 ?_ | refine S25 ?_ | refine S26 ?_ | refine S27 ?_ | refine S28 ?_ | refine S29 ?_ | refine S33 ?_ | refine S37 ?_ | refine S38 ?_ | refine S40 ?_ | refine S41 ?_ | refine S46 ?_ | refine S51 ?_ | refine S56 ?_ | refine S65 ?_ | refine S68 ?_ | refine S71 ?_ | refine S73 ?_ | refine S80 ?_ | refine S81 ?_)
            refine Scall (args := [pli js, pint (outM n k x : Nat)]) (at_s hU (by omega) (hou x hx2)) ?_
            repeat (first | refine S0 ?_ | refine S1 ?_ | refine S2 ?_ | refine S3 ?_ | refine S4 ?_ | refine S5 ?_ | refine S6 ?_ | refine S7 ?_ | refine S8 ?_ | refine S10 ?_ | refine S11 ?_ | refine S13 ?_ | refine S15 ?_ | refine S16 ?_ | refine S19 ?_ | refine S20 ?_ | refine S21 ?_ | refine S22 ?_ | refine S23 ?_ | refine S24 ?_ | refine S25 ?_ | refine S26 ?_ | refine S27 ?_ | refine S28 ?_ | refine S29 ?_ | refine S33 ?_ | refine S37 ?_ | refine S38 ?_ | refine S40 ?_ | refine S41 ?_ | refine S46 ?_ | refine S51 ?_ | refine S56 ?_ | refine S65 ?_ | refine S68 ?_ | refine S71 ?_ | refine S73 ?_ | refine S80 ?_ | refine S81 ?_)
            refine Scallv (args := [pint y, .lptr [pint n], .lptr [pint k]]) (stackOut_s (by omega) (by omega) (by omega)) ?_
            repeat (first | refine S0 ?_ | refine S1 ?_ | refine S2 ?_ | refine S3 ?_ | refine S4 ?_ | refine S5 ?_ | refine S6 ?_ | refine S7 ?_ | refine S8 ?_ | refine S10 ?_ | refine S11 ?_ | refine S13 ?_ | refine S15 ?_ | refine S16 ?_ | refine S19 ?_ | refine S20 ?_ | refine S21 ?_ | refine S22 ?_ | refine S23 ?_ | refine S24 ?_ | refine S25 ?_ | refine S26 ?_ | refine S27 ?_ | refine S28 ?_ | refine S29 ?_ | refine S33 ?_ | refine S37 ?_ | refine S38 ?_ | refine S40 ?_ | refine S41 ?_ | refine S46 ?_ | refine S51 ?_ | refine S56 ?_ | refine S65 ?_ | refine S68 ?_ | refine S71 ?_ | refine S73 ?_ | refine S80 ?_ | refine S81 ?_)
            refine Scall (args := [pli js, pint (outM n k y : Nat)]) (at_s hU (by omega) (hou y hy2)) ?_
            by_cases c : o x = y
            · have e : r (outM n k x) = r (outM n k y) := by rw [← c]; exact k3
              repeat (first | refine S0 ?_ | refine S1 ?_ | refine S2 ?_ | refine S3 ?_ | refine S4 ?_ | refine S5 ?_ | refine S6 ?_ | refine S7 ?_ | refine S8 ?_ | refine S10 ?_ | refine S11 ?_ | refine S13 ?_ | refine S15 ?_ | refine S16 ?_ | refine S19 ?_ | refine S20 ?_ | refine S21 ?_ | refine S22 ?_ | refine S23 ?_ | refine S24 ?_ | refine S25 ?_ | refine S26 ?_ | refine S27 ?_ | refine S28 ?_ | refine S29 ?_ | refine S33 ?_ | refine S37 ?_ | refine S38 ?_ | refine S40 ?_ | refine S41 ?_ | refine S46 ?_ | refine S51 ?_ | refine S56 ?_ | refine S65 ?_ | refine S68 ?_ | refine S71 ?_ | refine S73 ?_ | refine S80 ?_ | refine S81 ?_)
              rw [dT_set c]
              exact ⟨y + 1, hy2, SLx, ⟨HBx, (by first | omega | (simp only [HP.tokF, HP.tokT, HP.next_add, HP.next_set, HP.next_kill, HP.next_H0, HP.next_addS, HP.next_setS, HP.next_killS, HP.next_put, HP.next_bump, HP.next_putS]; omega))⟩, by omega⟩
            · have e : ¬ ((r (outM n k x) : Nat) : Int) = (r (outM n k y) : Nat) := fun h => c (k4 y hy2 (fun h => hxy h.symm) (by omega)).symm
              repeat (first | refine S0 ?_ | refine S1 ?_ | refine S2 ?_ | refine S3 ?_ | refine S4 ?_ | refine S5 ?_ | refine S6 ?_ | refine S7 ?_ | refine S8 ?_ | refine S10 ?_ | refine S11 ?_ | refine S13 ?_ | refine S15 ?_ | refine S16 ?_ | refine S19 ?_ | refine S20 ?_ | refine S21 ?_ | refine S22 ?_ | refine S23 ?_ | refine S24 ?_ | refine S25 ?_ | refine S26 ?_ | refine S27 ?_ | refine S28 ?_ | refine S29 ?_ | refine S33 ?_ | refine S37 ?_ | refine S38 ?_ | refine S40 ?_ | refine S41 ?_ | refine S46 ?_ | refine S51 ?_ | refine S56 ?_ | refine S65 ?_ | refine S68 ?_ | refine S71 ?_ | refine S73 ?_ | refine S80 ?_ | refine S81 ?_)
              exact ⟨y + 1, hy2, SLx, by rw [dT_skip c]; exact ⟨HBx, (by first | omega | (simp only [HP.tokF, HP.tokT, HP.next_add, HP.next_set, HP.next_kill, HP.next_H0, HP.next_addS, HP.next_setS, HP.next_killS, HP.next_put, HP.next_bump, HP.next_putS]; omega))⟩, by omega⟩
        · obtain rfl : y = 2 * n := by omega
          rw [dT_row hol] at hB
          repeat (first | refine S0 ?_ | refine S1 ?_ | refine S2 ?_ | refine S3 ?_ | refine S4 ?_ | refine S5 ?_ | refine S6 ?_ | refine S7 ?_ | refine S8 ?_ | refine S10 ?_ | refine S11 ?_ | refine S13 ?_ | refine S15 ?_ | refine S16 ?_ | refine S19 ?_ | refine S20 ?_ | refine S21 ?_ | refine S22 ?_ | refine S23 ?_ | refine S24 ?_ | refine S25 ?_ | refine S26 ?_ | refine S27 ?_ | refine S28 ?_ | refine S29 ?_ | refine S33 ?_ | refine S37 ?_ | refine S38 ?_ | refine S40 ?_ | refine S41 ?_ | refine S46 ?_ | refine S51 ?_ | refine S56 ?_ | refine S65 ?_ | refine S68 ?_ | refine S71 ?_ | refine S73 ?_ | refine S80 ?_ | refine S81 ?_)
          exact ⟨x + 1, hx2, SLx, ⟨HBx, (by first | omega | (simp only [HP.tokF, HP.tokT, HP.next_add, HP.next_set, HP.next_kill, HP.next_H0, HP.next_addS, HP.next_setS, HP.next_killS, HP.next_put, HP.next_bump, HP.next_putS]; omega))⟩, by omega⟩
      · obtain rfl : x = 2 * n := by omega
        rw [dT_all] at hB
        repeat (first | refine S0 ?_ | refine S1 ?_ | refine S2 ?_ | refine S3 ?_ | refine S4 ?_ | refine S5 ?_ | refine S6 ?_ | refine S7 ?_ | refine S8 ?_ | refine S10 ?_ | refine S11 ?_ | refine S13 ?_ | refine S15 ?_ | refine S16 ?_ | refine S19 ?_ | refine S20 ?_ | refine S21 ?_ | refine S22 ?_ | refine S23 ?_ | refine S24 ?_ | refine S25 ?_ | refine S26 ?_ | refine S27 ?_ | refine S28 ?_ | refine S29 ?_ | refine S33 ?_ | refine S37 ?_ | refine S38 ?_ | refine S40 ?_ | refine S41 ?_ | refine S46 ?_ | refine S51 ?_ | refine S56 ?_ | refine S65 ?_ | refine S68 ?_ | refine S71 ?_ | refine S73 ?_ | refine S80 ?_ | refine S81 ?_)
        refine AW.lenm (ks := rtK r i) EVx rfl (rtK_nodup r i) (fun q => rtK_mem hrr q) ?_
        have hcb : n + c ≤ i := by
          rw [← hc, ← rtK_len]
          unfold rtK
          rw [List.length_map]
          exact Nat.le_trans (List.length_filter_le _ _) (by simp)
        rw [rtK_len, hc]
        repeat (first | refine S0 ?_ | refine S1 ?_ | refine S2 ?_ | refine S3 ?_ | refine S4 ?_ | refine S5 ?_ | refine S6 ?_ | refine S7 ?_ | refine S8 ?_ | refine S10 ?_ | refine S11 ?_ | refine S13 ?_ | refine S15 ?_ | refine S16 ?_ | refine S19 ?_ | refine S20 ?_ | refine S21 ?_ | refine S22 ?_ | refine S23 ?_ | refine S24 ?_ | refine S25 ?_ | refine S26 ?_ | refine S27 ?_ | refine S28 ?_ | refine S29 ?_ | refine S33 ?_ | refine S37 ?_ | refine S38 ?_ | refine S40 ?_ | refine S41 ?_ | refine S46 ?_ | refine S51 ?_ | refine S56 ?_ | refine S65 ?_ | refine S68 ?_ | refine S71 ?_ | refine S73 ?_ | refine S80 ?_ | refine S81 ?_)
        rw [show ((n + c : Nat) : Int) - (n : Int) = (c : Int) by omega]
        exact ⟨.inr rfl, Fz.pairQ (Fz.refI hB (tab_len _ _).symm rfl) (.cl rfl)⟩
end Go.Proofs.Ytdlpbpfcgjgppaa
