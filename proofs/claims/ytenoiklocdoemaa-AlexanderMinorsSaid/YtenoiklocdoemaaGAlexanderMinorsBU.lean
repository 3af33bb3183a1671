/- The reference's Burau matrix, by halves. No condition of its own. -/
import Derived.Test.YtenoiklocdoemaaGAlexanderMinorsBS
import Derived.Test.YtenoiklocdoemaaGAlexanderMinorsBT
import Derived.Test.YtenoiklocdoemaaGAlexanderMinorsBA
import Derived.Test.YtenoiklocdoemaaGAlexanderMinorsAU
import Derived.Test.YtenoiklocdoemaaGAlexanderMinorsBK
import Derived.Test.YtenoiklocdoemaaGAlexanderMinorsBL
import Derived.Test.YtenoiklocdoemaaGAlexanderMinorsBC
set_option linter.unusedVariables false
set_option linter.unusedSimpArgs false
namespace Go.Proofs.Ytenoiklocdoemaa
open Go.RowKit

set_option maxHeartbeats 8000000 in
set_option maxRecDepth 100000 in
theorem rburau0_s {n : Nat} (hn : 1 ≤ n ∧ n ≤ 6) : SC Try.prog 9 [pint n, pli []] (ptmss (matT unitT n)) := by
  refine SC.go { pc := [18, 25, 26], rl := [43, 50, 55, 61, 78, 85, 90, 96], am := [63, 65, 67, 69, 98, 99, 101, 103], sq := [70, 71, 72, 73, 105, 106, 107, 108] } tok mixed Try.func9 rfl rfl Try.ntmps9 rfl rfl (code3_ok (by kernel_rfl)) ?_
  first | simp only [updS] | simp only [updL, Nat.reduceAdd]
  repeat (first | refine S0 ?_ | refine S1 ?_ | refine S2 ?_ | refine S3 ?_ | refine S4 ?_ | refine S5 ?_ | refine S6 ?_ | refine S7 ?_ | refine S8 ?_ | refine S9 ?_ | refine S10 ?_ | refine S13 ?_ | refine S15 ?_ | refine S16 ?_ | refine S19 ?_ | refine S20 ?_ | refine S21 ?_ | refine S23 ?_ | refine S30 ?_ | refine S52 ?_ | refine S59 ?_ | refine S60 ?_)
  refine Scalle (args := [pint n]) (unit_e hn.2 _) ?_
  rintro r h' ⟨T, tk, rfl, R, F, G, hTg⟩
  repeat (first | refine S0 ?_ | refine S1 ?_ | refine S2 ?_ | refine S3 ?_ | refine S4 ?_ | refine S5 ?_ | refine S6 ?_ | refine S7 ?_ | refine S8 ?_ | refine S9 ?_ | refine S10 ?_ | refine S13 ?_ | refine S15 ?_ | refine S16 ?_ | refine S19 ?_ | refine S20 ?_ | refine S21 ?_ | refine S23 ?_ | refine S30 ?_ | refine S52 ?_ | refine S59 ?_ | refine S60 ?_)
  refine CW.loopS (fun _ : Unit => True) (fun _ => [(5, .ref T 0 1 n), (29, pli []), (30, pint (0 : Nat)), (31, pint (0 : Nat))]) (fun _ hp => RowsM n n T tk (rowT unitT n) hp) (fun _ => 0) () ⟨trivial, SLx, R⟩ ?_
  rintro ⟨⟩ t h1 _ R1
  first | simp only [updS] | simp only [updL, Nat.reduceAdd]
  repeat (first | refine S0 ?_ | refine S1 ?_ | refine S2 ?_ | refine S3 ?_ | refine S4 ?_ | refine S5 ?_ | refine S6 ?_ | refine S7 ?_ | refine S8 ?_ | refine S9 ?_ | refine S10 ?_ | refine S13 ?_ | refine S15 ?_ | refine S16 ?_ | refine S19 ?_ | refine S20 ?_ | refine S21 ?_ | refine S23 ?_ | refine S30 ?_ | refine S52 ?_ | refine S59 ?_ | refine S60 ?_)
  exact ⟨.inr rfl, frzM R1⟩
theorem burM_sup' (w : List Int) (r c : Nat) : Sup ((w.length : Nat) : Int) (burM w r c) := burM_sup w r c
set_option maxHeartbeats 16000000 in
set_option maxRecDepth 100000 in
/-- the reference's matrix stands for the Burau matrix -/
theorem rburau_s {n : Nat} (hn : 1 ≤ n ∧ n ≤ 6) : ∀ (k : Nat) (w : List Int), w.length ≤ k → w.length ≤ 300 → (∀ x ∈ w, letP n x) → ∃ tm, TMz tm n w.length (burM w) ∧ SC Try.prog 9 [pint n, pli w] (ptmss tm)
  | k, w, hk, h3, hw => by
    by_cases hl : w.length ≤ 1
    · by_cases h0 : w.length = 0
      · obtain rfl := List.eq_nil_of_length_eq_zero h0
        refine ⟨_, ?_, rburau0_s hn⟩
        exact matT_ok hn.2 (by simp) (fun _ _ => unit_is _ _) unit_64 (burM_sup' [])
      · obtain ⟨x, rfl⟩ : ∃ x, w = [x] := by
          match w, hl, h0 with
          | [x], _, _ => exact ⟨x, rfl⟩
          | [], _, h => exact absurd rfl h
          | _ :: _ :: _, h, _ => simp at h
        have hx := hw x (by simp)
        refine ⟨matT (letterT x) n, ?_, (if hs : 0 < x then rburauP_s hn x hx hs else rburauN_s hn x hx (by have := hx.1; omega))⟩
        exact matT_ok hn.2 (by simp) (letter_is (hw x (by simp)).1) (letter_64 x) (burM_sup' [x])
    · match k, hk with
      | 0, hk => omega
      | k + 1, hk =>
        have hu : (w.take (w.length / 2)).length = w.length / 2 := by simp; omega
        have hv : (w.drop (w.length / 2)).length = w.length - w.length / 2 := by simp
        obtain ⟨A, hA, kA⟩ := rburau_s hn k (w.take (w.length / 2)) (by omega) (by omega) (fun x hx => hw x (List.mem_of_mem_take hx))
        obtain ⟨B, hB, kB⟩ := rburau_s hn k (w.drop (w.length / 2)) (by omega) (by omega) (fun x hx => hw x (List.mem_of_mem_drop hx))
        have hlet : ∀ x ∈ w.drop (w.length / 2), 1 ≤ x.natAbs ∧ x.natAbs < n := fun x hx => by
          obtain ⟨q1, q2, q3⟩ := hw x (List.mem_of_mem_drop hx)
          omega
        have hb : (w.take (w.length / 2)).length + (w.drop (w.length / 2)).length = w.length := by omega
        have hP := prod_ok (L := burM w) hA.m hB.m (by omega) (fun i j hi hj => by
          have := burM_app (n := n) (w.take (w.length / 2)) _ (w.drop (w.length / 2)) rfl hlet i j hi hj
          rwa [List.take_append_drop] at this) (fun i j => by rw [hb]; exact burM_sup' w i j)
        rw [hb] at hP
        refine ⟨prodL A B n, hP, ?_⟩
        have kp := product_s hA.m hB.m
        generalize prodL A B n = C at *
        have hdiv : Int.tdiv (w.length : Int) 2 = ((w.length / 2 : Nat) : Int) := rfl
        refine SC.go { pc := [18, 25, 26], rl := [43, 50, 55, 61, 78, 85, 90, 96], am := [63, 65, 67, 69, 98, 99, 101, 103], sq := [70, 71, 72, 73, 105, 106, 107, 108] } tok mixed Try.func9 rfl rfl Try.ntmps9 rfl rfl (code3_ok (by kernel_rfl)) ?_
        first | simp only [updS] | simp only [updL, Nat.reduceAdd]
        repeat (first | refine S0 ?_ | refine S1 ?_ | refine S2 ?_ | refine S3 ?_ | refine S4 ?_ | refine S5 ?_ | refine S6 ?_ | refine S7 ?_ | refine S8 ?_ | refine S9 ?_ | refine S10 ?_ | refine S13 ?_ | refine S15 ?_ | refine S16 ?_ | refine S19 ?_ | refine S20 ?_ | refine S21 ?_ | refine S23 ?_ | refine S30 ?_ | refine S52 ?_ | refine S59 ?_ | refine S60 ?_)
        rw [show ((w.length : Int) / 2).toNat = w.length / 2 by omega]
        refine Scall (args := [pint n, pli (w.take (w.length / 2))]) kA ?_
        repeat (first | refine S0 ?_ | refine S1 ?_ | refine S2 ?_ | refine S3 ?_ | refine S4 ?_ | refine S5 ?_ | refine S6 ?_ | refine S7 ?_ | refine S8 ?_ | refine S9 ?_ | refine S10 ?_ | refine S13 ?_ | refine S15 ?_ | refine S16 ?_ | refine S19 ?_ | refine S20 ?_ | refine S21 ?_ | refine S23 ?_ | refine S30 ?_ | refine S52 ?_ | refine S59 ?_ | refine S60 ?_)
        rw [show ((w.length : Int) / 2).toNat = w.length / 2 by omega]
        refine Scall (args := [pint n, pli (w.drop (w.length / 2))]) kB ?_
        repeat (first | refine S0 ?_ | refine S1 ?_ | refine S2 ?_ | refine S3 ?_ | refine S4 ?_ | refine S5 ?_ | refine S6 ?_ | refine S7 ?_ | refine S8 ?_ | refine S9 ?_ | refine S10 ?_ | refine S13 ?_ | refine S15 ?_ | refine S16 ?_ | refine S19 ?_ | refine S20 ?_ | refine S21 ?_ | refine S23 ?_ | refine S30 ?_ | refine S52 ?_ | refine S59 ?_ | refine S60 ?_)
        refine Scall (args := [ptmss A, ptmss B]) kp ?_
        repeat (first | refine S0 ?_ | refine S1 ?_ | refine S2 ?_ | refine S3 ?_ | refine S4 ?_ | refine S5 ?_ | refine S6 ?_ | refine S7 ?_ | refine S8 ?_ | refine S9 ?_ | refine S10 ?_ | refine S13 ?_ | refine S15 ?_ | refine S16 ?_ | refine S19 ?_ | refine S20 ?_ | refine S21 ?_ | refine S23 ?_ | refine S30 ?_ | refine S52 ?_ | refine S59 ?_ | refine S60 ?_)
        exact ⟨.inr rfl, .cl (ptmss_cl _)⟩
end Go.Proofs.Ytenoiklocdoemaa

/- The reference's Minor: one less the Burau matrix. No condition of its own. -/
set_option linter.unusedVariables false
set_option linter.unusedSimpArgs false
namespace Go.Proofs.Ytenoiklocdoemaa
open Go.RowKit

/-- one less the Burau matrix -/
noncomputable def MA (w : List Int) (r c : Nat) : LP := unitM r c + LP.smul (-1) (burM w r c)
theorem MA_sup (w : List Int) (r c : Nat) : Sup ((w.length : Nat) : Int) (MA w r c) := by
  unfold MA
  refine Sup.add ((unitM_sup r c).mono (by simp)) (fun e he => burM_sup w r c e (fun hh => he ?_))
  rw [LP.smul_f, hh, Int.mul_zero]
noncomputable def minorT (tm : List (List Tm)) (i k : Nat) : Tm := wT (tplus (unitT i k) ((tm.getD i []).getD k tm0) (-1))
noncomputable def colU (tm : List (List Tm)) (i k : Nat) (r c : Nat) : Tm := if r < i ∨ (r = i ∧ c < k) then minorT tm r c else unitT r c
theorem colU_0 (tm : List (List Tm)) : colU tm 0 0 = unitT := by
  funext r c; unfold colU; rw [if_neg (by omega)]
theorem colU_end {tm : List (List Tm)} {n i r : Nat} : rowT (colU tm i n) n r = rowT (colU tm (i + 1) 0) n r := by
  unfold rowT colU
  refine List.map_congr_left (fun c hc => ?_)
  have := List.mem_range.1 hc
  by_cases h : r < i ∨ (r = i ∧ c < n)
  · rw [if_pos h, if_pos (by omega)]
  · rw [if_neg h, if_neg (by omega)]
theorem colU_set (tm : List (List Tm)) {n i k : Nat} : (rowT (colU tm i k) n i).set k (.fmap (mi (minorT tm i k))) = rowT (colU tm i (k + 1)) n i :=
  rowT_set (F := colU tm i k) (G := colU tm i (k + 1)) (if_pos (.inr ⟨rfl, Nat.lt_succ_self k⟩)) (fun d _ hd => by
    unfold colU
    by_cases h : d < k
    · rw [if_pos (.inr ⟨rfl, show d < k + 1 by omega⟩), if_pos (.inr ⟨rfl, h⟩)]
    · rw [if_neg (by omega), if_neg (by omega)])
theorem colU_oth (tm : List (List Tm)) {n i k r : Nat} (h : r ≠ i) : rowT (colU tm i (k + 1)) n r = rowT (colU tm i k) n r := by
  unfold rowT colU
  refine List.map_congr_left (fun c _ => ?_)
  by_cases h2 : r < i
  · rw [if_pos (.inl h2), if_pos (.inl h2)]
  · rw [if_neg (by omega), if_neg (by omega)]
theorem rowT_get (F : Nat → Nat → Tm) {n r c : Nat} (h : c < n) : (rowT F n r)[c]? = some (.fmap (mi (F r c))) := by simp [rowT, h, ptm]
theorem minor_ok {tm : List (List Tm)} {n : Nat} {w : List Int} (h : TMz tm n w.length (burM w)) : TMz (matT (minorT tm) (n - 1)) (n - 1) w.length (MA w) := by
  have hn := h.m.hn
  refine ⟨⟨by omega, h.m.hB, by simp [matT], fun i hi => by simp [matT, List.getD, hi], fun i k hi hk => ?_, MA_sup w⟩, fun i k hi hk => ?_⟩
  · rw [matT_get _ hi hk]
    exact (unit_is i k).plus (h.m.is i k (by omega) (by omega)) (-1)
  · rw [matT_get _ hi hk]; exact T64.wT _
set_option maxHeartbeats 16000000 in
set_option maxRecDepth 100000 in
theorem minor_s {n : Nat} {w : List Int} {tm : List (List Tm)} (hn : 1 ≤ n) (hM : TMz tm n w.length (burM w)) (kb : SC Try.prog 9 [pint n, pli w] (ptmss tm)) : SC Try.prog 26 [pint n, pli w] (ptmss (matT (minorT tm) (n - 1))) := by
  have hn6 := hM.m.hn
  have hAl := hM.m.len
  have hb := hM.m.hB
  obtain ⟨q, hq⟩ : ∃ q, q = n - 1 := ⟨_, rfl⟩
  rw [← hq]
  refine SC.go { pc := [44] } tok mixed Try.func26 rfl rfl Try.ntmps26 rfl rfl (code3_ok (by kernel_rfl)) ?_
  first | simp only [updS] | simp only [updL, Nat.reduceAdd]
  repeat (first | refine S0 ?_ | refine S1 ?_ | refine S2 ?_ | refine S3 ?_ | refine S4 ?_ | refine S5 ?_ | refine S6 ?_ | refine S7 ?_ | refine S8 ?_ | refine S10 ?_ | refine S11 ?_ | refine S13 ?_ | refine S15 ?_ | refine S16 ?_ | refine S19 ?_ | refine S20 ?_ | refine S21 ?_ | refine S22 ?_ | refine S24 ?_ | refine S25 ?_ | refine S26 ?_ | refine S27 ?_ | refine S33 ?_)
  refine Scall (args := [pint n, pli w]) kb ?_
  repeat (first | refine S0 ?_ | refine S1 ?_ | refine S2 ?_ | refine S3 ?_ | refine S4 ?_ | refine S5 ?_ | refine S6 ?_ | refine S7 ?_ | refine S8 ?_ | refine S10 ?_ | refine S11 ?_ | refine S13 ?_ | refine S15 ?_ | refine S16 ?_ | refine S19 ?_ | refine S20 ?_ | refine S21 ?_ | refine S22 ?_ | refine S24 ?_ | refine S25 ?_ | refine S26 ?_ | refine S27 ?_ | refine S33 ?_)
  rw [show (n : Int) - 1 = (q : Int) by omega]
  refine Scalle (args := [pint q]) (unit_e (by omega) _) ?_
  rintro r h' ⟨T, tk, rfl, R, F, G, hTg⟩
  repeat (first | refine S0 ?_ | refine S1 ?_ | refine S2 ?_ | refine S3 ?_ | refine S4 ?_ | refine S5 ?_ | refine S6 ?_ | refine S7 ?_ | refine S8 ?_ | refine S10 ?_ | refine S11 ?_ | refine S13 ?_ | refine S15 ?_ | refine S16 ?_ | refine S19 ?_ | refine S20 ?_ | refine S21 ?_ | refine S22 ?_ | refine S24 ?_ | refine S25 ?_ | refine S26 ?_ | refine S27 ?_ | refine S33 ?_)
  have hTe := R.evT
  refine CW.loopS (fun i : Nat => i ≤ q) (fun i => [(5, ptmss tm), (6, .ref T 0 1 q), (15, .ref T 0 1 q), (16, pint q), (17, pint i)])
    (fun i hp => RowsM q q T tk (rowT (colU tm i 0) q) hp) (fun i => q - i) 0 ⟨Nat.zero_le _, SLx, ?_⟩ ?_
  · rw [colU_0]; exact R
  clear R F
  rintro i t h1 hi R
  first | simp only [updS] | simp only [updL, Nat.reduceAdd]
  by_cases hi2 : i < q
  · repeat (first | refine S0 ?_ | refine S1 ?_ | refine S2 ?_ | refine S3 ?_ | refine S4 ?_ | refine S5 ?_ | refine S6 ?_ | refine S7 ?_ | refine S8 ?_ | refine S10 ?_ | refine S11 ?_ | refine S13 ?_ | refine S15 ?_ | refine S16 ?_ | refine S19 ?_ | refine S20 ?_ | refine S21 ?_ | refine S22 ?_ | refine S24 ?_ | refine S25 ?_ | refine S26 ?_ | refine S27 ?_ | refine S33 ?_)
    refine CW.loopS (fun k : Nat => k ≤ q) (fun k => [(5, ptmss tm), (6, .ref T 0 1 q), (15, .ref T 0 1 q), (16, pint q), (17, pint i), (7, pint i), (20, .ref T 0 1 q), (21, pint q), (22, pint k)])
      (fun k hp => RowsM q q T tk (rowT (colU tm i k) q) hp) (fun k => q - k) 0 ⟨Nat.zero_le _, SLx, R⟩ ?_
    clear R t
    rintro k t h2 hk R
    first | simp only [updS] | simp only [updL, Nat.reduceAdd]
    by_cases hk2 : k < q
    · have hte := R.ev i hi2
      have hra := hM.m.row i (by omega)
      have hS := unit_is i k (B := w.length)
      have hI := hM.m.is i k (by omega) (by omega)
      have hp := tplusW_s (unitT i k) ((tm.getD i []).getD k tm0) (-1) w.length hS.bd hI.bd
      have hcu : (rowT (colU tm i k) q i)[k]? = some (.fmap (mi (unitT i k))) := by
        rw [rowT_get _ hk2]
        unfold colU
        rw [if_neg (by omega)]
      repeat (first | refine S0 ?_ | refine S1 ?_ | refine S2 ?_ | refine S3 ?_ | refine S4 ?_ | refine S5 ?_ | refine S6 ?_ | refine S7 ?_ | refine S8 ?_ | refine S10 ?_ | refine S11 ?_ | refine S13 ?_ | refine S15 ?_ | refine S16 ?_ | refine S19 ?_ | refine S20 ?_ | refine S21 ?_ | refine S22 ?_ | refine S24 ?_ | refine S25 ?_ | refine S26 ?_ | refine S27 ?_ | refine S33 ?_)
      rw [show 0 + (i : Int).toNat * 1 = i by simp]
      refine AW.ldm EVx (by first | exact Or.inl rfl | exact Or.inr ⟨rfl, HP.tok_even _⟩ | exact Or.inr (Or.inl ⟨rfl, HP.tok_even _⟩) | exact Or.inr (Or.inr ⟨rfl, HP.tok_odd _⟩) | exact Or.inr (Or.inl rfl) | exact Or.inr (Or.inr (Or.inl rfl)) | exact Or.inr (Or.inr (Or.inr (Or.inl ⟨rfl, HP.tok_odd _⟩))) | exact Or.inr (Or.inr (Or.inr (Or.inr ⟨rfl, HP.tok_even _⟩))) | exact Or.inr (Or.inr (Or.inr (Or.inr ⟨rfl, by assumption⟩))) | exact Or.inr ⟨rfl, by assumption⟩ | exact Or.inr (Or.inl ⟨rfl, by assumption⟩) | exact Or.inr (Or.inr ⟨rfl, by assumption⟩) | exact Or.inr (Or.inr (Or.inr (Or.inl ⟨rfl, by assumption⟩))) | exact Or.inr (Or.inr (Or.inl ⟨rfl, HP.tok_odd _⟩)) | exact Or.inr (Or.inr (Or.inl ⟨rfl, by assumption⟩)) | exact Or.inr (Or.inr (Or.inr rfl)) | exact Or.inr (Or.inr rfl) | exact Or.inr rfl) rfl R.out (outM_get hi2 hi2) ?_
      repeat (first | refine S0 ?_ | refine S1 ?_ | refine S2 ?_ | refine S3 ?_ | refine S4 ?_ | refine S5 ?_ | refine S6 ?_ | refine S7 ?_ | refine S8 ?_ | refine S10 ?_ | refine S11 ?_ | refine S13 ?_ | refine S15 ?_ | refine S16 ?_ | refine S19 ?_ | refine S20 ?_ | refine S21 ?_ | refine S22 ?_ | refine S24 ?_ | refine S25 ?_ | refine S26 ?_ | refine S27 ?_ | refine S33 ?_)
      rw [show 0 + (i : Int).toNat * 1 = i by simp]
      refine AW.ldm EVx (by first | exact Or.inl rfl | exact Or.inr ⟨rfl, HP.tok_even _⟩ | exact Or.inr (Or.inl ⟨rfl, HP.tok_even _⟩) | exact Or.inr (Or.inr ⟨rfl, HP.tok_odd _⟩) | exact Or.inr (Or.inl rfl) | exact Or.inr (Or.inr (Or.inl rfl)) | exact Or.inr (Or.inr (Or.inr (Or.inl ⟨rfl, HP.tok_odd _⟩))) | exact Or.inr (Or.inr (Or.inr (Or.inr ⟨rfl, HP.tok_even _⟩))) | exact Or.inr (Or.inr (Or.inr (Or.inr ⟨rfl, by assumption⟩))) | exact Or.inr ⟨rfl, by assumption⟩ | exact Or.inr (Or.inl ⟨rfl, by assumption⟩) | exact Or.inr (Or.inr ⟨rfl, by assumption⟩) | exact Or.inr (Or.inr (Or.inr (Or.inl ⟨rfl, by assumption⟩))) | exact Or.inr (Or.inr (Or.inl ⟨rfl, HP.tok_odd _⟩)) | exact Or.inr (Or.inr (Or.inl ⟨rfl, by assumption⟩)) | exact Or.inr (Or.inr (Or.inr rfl)) | exact Or.inr (Or.inr rfl) | exact Or.inr rfl) rfl R.out (outM_get hi2 hi2) ?_
      repeat (first | refine S0 ?_ | refine S1 ?_ | refine S2 ?_ | refine S3 ?_ | refine S4 ?_ | refine S5 ?_ | refine S6 ?_ | refine S7 ?_ | refine S8 ?_ | refine S10 ?_ | refine S11 ?_ | refine S13 ?_ | refine S15 ?_ | refine S16 ?_ | refine S19 ?_ | refine S20 ?_ | refine S21 ?_ | refine S22 ?_ | refine S24 ?_ | refine S25 ?_ | refine S26 ?_ | refine S27 ?_ | refine S33 ?_)
      rw [show 0 + (k : Int).toNat * 1 = k by simp]
      refine AW.ldm EVx (by first | exact Or.inl rfl | exact Or.inr ⟨rfl, HP.tok_even _⟩ | exact Or.inr (Or.inl ⟨rfl, HP.tok_even _⟩) | exact Or.inr (Or.inr ⟨rfl, HP.tok_odd _⟩) | exact Or.inr (Or.inl rfl) | exact Or.inr (Or.inr (Or.inl rfl)) | exact Or.inr (Or.inr (Or.inr (Or.inl ⟨rfl, HP.tok_odd _⟩))) | exact Or.inr (Or.inr (Or.inr (Or.inr ⟨rfl, HP.tok_even _⟩))) | exact Or.inr (Or.inr (Or.inr (Or.inr ⟨rfl, by assumption⟩))) | exact Or.inr ⟨rfl, by assumption⟩ | exact Or.inr (Or.inl ⟨rfl, by assumption⟩) | exact Or.inr (Or.inr ⟨rfl, by assumption⟩) | exact Or.inr (Or.inr (Or.inr (Or.inl ⟨rfl, by assumption⟩))) | exact Or.inr (Or.inr (Or.inl ⟨rfl, HP.tok_odd _⟩)) | exact Or.inr (Or.inr (Or.inl ⟨rfl, by assumption⟩)) | exact Or.inr (Or.inr (Or.inr rfl)) | exact Or.inr (Or.inr rfl) | exact Or.inr rfl) rfl (R.row i hi2) hcu ?_
      repeat (first | refine S0 ?_ | refine S1 ?_ | refine S2 ?_ | refine S3 ?_ | refine S4 ?_ | refine S5 ?_ | refine S6 ?_ | refine S7 ?_ | refine S8 ?_ | refine S10 ?_ | refine S11 ?_ | refine S13 ?_ | refine S15 ?_ | refine S16 ?_ | refine S19 ?_ | refine S20 ?_ | refine S21 ?_ | refine S22 ?_ | refine S24 ?_ | refine S25 ?_ | refine S26 ?_ | refine S27 ?_ | refine S33 ?_)
      refine AW.ldl EVx rfl (p := ptm ((tm.getD i []).getD k tm0)) (by rw [Int.toNat_natCast, Nat.mul_one]; exact mapG_drop0 tm0 (by omega)) ?_
      repeat (first | refine S0 ?_ | refine S1 ?_ | refine S2 ?_ | refine S3 ?_ | refine S4 ?_ | refine S5 ?_ | refine S6 ?_ | refine S7 ?_ | refine S8 ?_ | refine S10 ?_ | refine S11 ?_ | refine S13 ?_ | refine S15 ?_ | refine S16 ?_ | refine S19 ?_ | refine S20 ?_ | refine S21 ?_ | refine S22 ?_ | refine S24 ?_ | refine S25 ?_ | refine S26 ?_ | refine S27 ?_ | refine S33 ?_)
      refine Scall (args := [.fmap (mi (unitT i k)), .fmap (mi ((tm.getD i []).getD k tm0)), pint (-1)]) hp ?_
      repeat (first | refine S0 ?_ | refine S1 ?_ | refine S2 ?_ | refine S3 ?_ | refine S4 ?_ | refine S5 ?_ | refine S6 ?_ | refine S7 ?_ | refine S8 ?_ | refine S10 ?_ | refine S11 ?_ | refine S13 ?_ | refine S15 ?_ | refine S16 ?_ | refine S19 ?_ | refine S20 ?_ | refine S21 ?_ | refine S22 ?_ | refine S24 ?_ | refine S25 ?_ | refine S26 ?_ | refine S27 ?_ | refine S33 ?_)
      rw [show 0 + (k : Int).toNat * 1 = k by simp]
      refine AW.stR (r := rowT (colU tm i (k + 1)) q i) EVx (by first | exact Or.inl rfl | exact Or.inr ⟨rfl, HP.tok_even _⟩ | exact Or.inr (Or.inl ⟨rfl, HP.tok_even _⟩) | exact Or.inr (Or.inr ⟨rfl, HP.tok_odd _⟩) | exact Or.inr (Or.inl rfl) | exact Or.inr (Or.inr (Or.inl rfl)) | exact Or.inr (Or.inr (Or.inr (Or.inl ⟨rfl, HP.tok_odd _⟩))) | exact Or.inr (Or.inr (Or.inr (Or.inr ⟨rfl, HP.tok_even _⟩))) | exact Or.inr (Or.inr (Or.inr (Or.inr ⟨rfl, by assumption⟩))) | exact Or.inr ⟨rfl, by assumption⟩ | exact Or.inr (Or.inl ⟨rfl, by assumption⟩) | exact Or.inr (Or.inr ⟨rfl, by assumption⟩) | exact Or.inr (Or.inr (Or.inr (Or.inl ⟨rfl, by assumption⟩))) | exact Or.inr (Or.inr (Or.inl ⟨rfl, HP.tok_odd _⟩)) | exact Or.inr (Or.inr (Or.inl ⟨rfl, by assumption⟩)) | exact Or.inr (Or.inr (Or.inr rfl)) | exact Or.inr (Or.inr rfl) | exact Or.inr rfl) EVx rfl (R.row i hi2) (by rw [rowT_len]; omega) rfl (colU_set tm) ?_
      repeat (first | refine S0 ?_ | refine S1 ?_ | refine S2 ?_ | refine S3 ?_ | refine S4 ?_ | refine S5 ?_ | refine S6 ?_ | refine S7 ?_ | refine S8 ?_ | refine S10 ?_ | refine S11 ?_ | refine S13 ?_ | refine S15 ?_ | refine S16 ?_ | refine S19 ?_ | refine S20 ?_ | refine S21 ?_ | refine S22 ?_ | refine S24 ?_ | refine S25 ?_ | refine S26 ?_ | refine S27 ?_ | refine S33 ?_)
      exact ⟨k + 1, by omega, SLx, R.turn hi2 (Nat.le_refl _) (HP.set_same _ _ _) (fun q _ _ q3 => HP.set_other _ _ q3) (fun r _ hr => colU_oth tm hr), by omega⟩
    · obtain rfl : q = k := by omega
      repeat (first | refine S0 ?_ | refine S1 ?_ | refine S2 ?_ | refine S3 ?_ | refine S4 ?_ | refine S5 ?_ | refine S6 ?_ | refine S7 ?_ | refine S8 ?_ | refine S10 ?_ | refine S11 ?_ | refine S13 ?_ | refine S15 ?_ | refine S16 ?_ | refine S19 ?_ | refine S20 ?_ | refine S21 ?_ | refine S22 ?_ | refine S24 ?_ | refine S25 ?_ | refine S26 ?_ | refine S27 ?_ | refine S33 ?_)
      exact ⟨i + 1, by omega, SLx, R.cong (fun j _ => colU_end), by omega⟩
  · obtain rfl : q = i := by omega
    repeat (first | refine S0 ?_ | refine S1 ?_ | refine S2 ?_ | refine S3 ?_ | refine S4 ?_ | refine S5 ?_ | refine S6 ?_ | refine S7 ?_ | refine S8 ?_ | refine S10 ?_ | refine S11 ?_ | refine S13 ?_ | refine S15 ?_ | refine S16 ?_ | refine S19 ?_ | refine S20 ?_ | refine S21 ?_ | refine S22 ?_ | refine S24 ?_ | refine S25 ?_ | refine S26 ?_ | refine S27 ?_ | refine S33 ?_)
    refine ⟨.inr rfl, ?_⟩
    rw [show matT (minorT tm) q = matT (colU tm q 0) q from List.map_congr_left fun r hr => List.map_congr_left fun c _ => (if_pos (.inl (List.mem_range.1 hr))).symm]
    exact frzM R
end Go.Proofs.Ytenoiklocdoemaa

/- slices.Reverse at a slice of the caller's own. No condition of its own. -/
set_option linter.unusedVariables false
set_option linter.unusedSimpArgs false
namespace Go.Proofs.Ytenoiklocdoemaa
open Go.RowKit

end Go.Proofs.Ytenoiklocdoemaa

/- laurent.Eval, Conjugate and Normalize. No condition of its own. -/
set_option linter.unusedVariables false
set_option linter.unusedSimpArgs false
namespace Go.Proofs.Ytenoiklocdoemaa
open Go.RowKit

/-- a term at 1 or -1 -/
def gat (x e y : Int) : Int := if x < 0 ∧ e.tmod 2 ≠ 0 then -y else y
def atS (p : Po) (x : Int) : Nat → Int
  | 0 => 0
  | k + 1 => atS p x k + gat x (p.1 + k) (p.2.getD k 0)
def evE (p : Po) (x : Int) : Int := if pF p = 0 then (if x = 1 ∨ x = -1 then 0 else 1) else pF p
def evV (p : Po) (x : Int) : Int := if pF p = 0 ∧ (x = 1 ∨ x = -1) then atS p x p.2.length else 0
noncomputable def cjP (p : Po) : Po := cano (fun e => co p (-e))
end Go.Proofs.Ytenoiklocdoemaa
