/- Facts and contracts that the claim uses. No condition of its own. -/
import Derived.Test.YtkmkcbkfakoomaaDoorGRingTextsBL
import Derived.Test.YtkmkcbkfakoomaaDoorGRingTextsBM
import Derived.Test.YtkmkcbkfakoomaaDoorGRingTextsBN
import Derived.Test.YtkmkcbkfakoomaaDoorGRingTextsBO
set_option linter.unusedVariables false
set_option linter.unusedSimpArgs false
namespace Go.Proofs.YtkmkcbkfakoomaaDoor
open Go.RowKit
theorem cv_byte (k : Nat) (hk : k < 100) (w : World) : (convert 3 5 (.int .i64 (49 + (k : Int)))).run Tryd.prog w = .ok (.int .u8 (49 + (k : Int))) w := by
  have h1 : IntKind.u8.wrap (49 + (k : Int)) = 49 + (k : Int) := by simp [IntKind.wrap, IntKind.signed, IntKind.bits]; omega
  simp [convert, Tryd.underlying5, Tryd.underlying3, Conv.intToInt, h1]
theorem bt_one {c i : Nat} (h : bt c i = true) : c / 2 ^ i % 2 = 1 := by simpa [bt] using h
theorem bt_zero {c i : Nat} (h : ¬ bt c i = true) : c / 2 ^ i % 2 = 0 := by
  have : ¬ c / 2 ^ i % 2 = 1 := by simpa [bt] using h
  omega
theorem div_lt {c i : Nat} (h : c < 64) : c / 2 ^ i < 64 := Nat.lt_of_le_of_lt (Nat.div_le_self _ _) h
set_option maxHeartbeats 4000000 in
set_option maxRecDepth 100000 in
theorem written_s {n c : Nat} (hn : n ≤ 7) (hc : c < 64) : SC Tryd.prog 25 [pint n, pint c] (pstr (wrt n c)) := by
  refine SC.go {} tok mixed Tryd.func25 rfl rfl Tryd.ntmps25 rfl rfl (by kernel_rfl) ?_
  first | simp only [updS] | simp only [updL, Nat.reduceAdd]
  repeat (first | refine S0 ?_ | refine S1 ?_ | refine S2 ?_ | refine S4 ?_ | refine S5 ?_ | refine S6 ?_ | refine S7 ?_ | refine S8 ?_ | refine S9 ?_ | refine S10 ?_ | refine S11 ?_ | refine S13 ?_ | refine S15 ?_ | refine S16 ?_ | refine S19 ?_ | refine S20 ?_ | refine S21 ?_ | refine S22 ?_ | refine S28 ?_ | refine S33 ?_ | refine S37 ?_ | refine S38 ?_ | refine S39 ?_ | refine S40 ?_ | refine S41 ?_ | refine S49 ?_)
  refine CW.loopS (fun k : Nat => k ≤ n) (fun k => [(0, pint n), (1, pint c), (5, pstr (wrA c k)), (7, pint n), (8, pint k)]) (fun _ _ => True) (fun k => n - k) 0 ⟨Nat.zero_le _, SLx, trivial⟩ ?_
  intro k t h hk _
  first | simp only [updS] | simp only [updL, Nat.reduceAdd]
  have hwl := wrA_len c k
  by_cases hk2 : k < n
  · by_cases hb : bt c k = true
    · have hb1 := bt_one hb
      have es : wrA c (k + 1) = wrA c k := by simp [wrA, stay, hb]
      repeat (first | refine S0 ?_ | refine S1 ?_ | refine S2 ?_ | refine S4 ?_ | refine S5 ?_ | refine S6 ?_ | refine S7 ?_ | refine S8 ?_ | refine S9 ?_ | refine S10 ?_ | refine S11 ?_ | refine S13 ?_ | refine S15 ?_ | refine S16 ?_ | refine S19 ?_ | refine S20 ?_ | refine S21 ?_ | refine S22 ?_ | refine S28 ?_ | refine S33 ?_ | refine S37 ?_ | refine S38 ?_ | refine S39 ?_ | refine S40 ?_ | refine S41 ?_ | refine S49 ?_)
      refine AW.binf EVx EVx (bshr c k rfl rfl (by omega) _ _ _) ?_
      repeat (first | refine S0 ?_ | refine S1 ?_ | refine S2 ?_ | refine S4 ?_ | refine S5 ?_ | refine S6 ?_ | refine S7 ?_ | refine S8 ?_ | refine S9 ?_ | refine S10 ?_ | refine S11 ?_ | refine S13 ?_ | refine S15 ?_ | refine S16 ?_ | refine S19 ?_ | refine S20 ?_ | refine S21 ?_ | refine S22 ?_ | refine S28 ?_ | refine S33 ?_ | refine S37 ?_ | refine S38 ?_ | refine S39 ?_ | refine S40 ?_ | refine S41 ?_ | refine S49 ?_)
      refine AW.binf EVx EVx (band1 _ rfl (div_lt hc) _ _ _) ?_
      rw [hb1]
      repeat (first | refine S0 ?_ | refine S1 ?_ | refine S2 ?_ | refine S4 ?_ | refine S5 ?_ | refine S6 ?_ | refine S7 ?_ | refine S8 ?_ | refine S9 ?_ | refine S10 ?_ | refine S11 ?_ | refine S13 ?_ | refine S15 ?_ | refine S16 ?_ | refine S19 ?_ | refine S20 ?_ | refine S21 ?_ | refine S22 ?_ | refine S28 ?_ | refine S33 ?_ | refine S37 ?_ | refine S38 ?_ | refine S39 ?_ | refine S40 ?_ | refine S41 ?_ | refine S49 ?_)
      exact ⟨k + 1, by omega, by rw [es]; exact SLx, trivial, by omega⟩
    · have hb1 := bt_zero hb
      by_cases h0 : k = 0
      · subst h0
        have es : wrA c (0 + 1) = wrA c 0 ++ [UInt8.ofNat (49 + 0)] := by show wrA c 0 ++ (if stay c 0 = true then _ else _) = _; rw [if_pos (by simp [stay, hb])]
        repeat (first | refine S0 ?_ | refine S1 ?_ | refine S2 ?_ | refine S4 ?_ | refine S5 ?_ | refine S6 ?_ | refine S7 ?_ | refine S8 ?_ | refine S9 ?_ | refine S10 ?_ | refine S11 ?_ | refine S13 ?_ | refine S15 ?_ | refine S16 ?_ | refine S19 ?_ | refine S20 ?_ | refine S21 ?_ | refine S22 ?_ | refine S28 ?_ | refine S33 ?_ | refine S37 ?_ | refine S38 ?_ | refine S39 ?_ | refine S40 ?_ | refine S41 ?_ | refine S49 ?_)
        refine AW.binf EVx EVx (bshr c 0 rfl rfl (by omega) _ _ _) ?_
        repeat (first | refine S0 ?_ | refine S1 ?_ | refine S2 ?_ | refine S4 ?_ | refine S5 ?_ | refine S6 ?_ | refine S7 ?_ | refine S8 ?_ | refine S9 ?_ | refine S10 ?_ | refine S11 ?_ | refine S13 ?_ | refine S15 ?_ | refine S16 ?_ | refine S19 ?_ | refine S20 ?_ | refine S21 ?_ | refine S22 ?_ | refine S28 ?_ | refine S33 ?_ | refine S37 ?_ | refine S38 ?_ | refine S39 ?_ | refine S40 ?_ | refine S41 ?_ | refine S49 ?_)
        refine AW.binf EVx EVx (band1 _ rfl (div_lt hc) _ _ _) ?_
        rw [hb1]
        repeat (first | refine S0 ?_ | refine S1 ?_ | refine S2 ?_ | refine S4 ?_ | refine S5 ?_ | refine S6 ?_ | refine S7 ?_ | refine S8 ?_ | refine S9 ?_ | refine S10 ?_ | refine S11 ?_ | refine S13 ?_ | refine S15 ?_ | refine S16 ?_ | refine S19 ?_ | refine S20 ?_ | refine S21 ?_ | refine S22 ?_ | refine S28 ?_ | refine S33 ?_ | refine S37 ?_ | refine S38 ?_ | refine S39 ?_ | refine S40 ?_ | refine S41 ?_ | refine S49 ?_)
        refine AW.conv EVx (cv_byte 0 (by omega)) ?_
        repeat (first | refine S0 ?_ | refine S1 ?_ | refine S2 ?_ | refine S4 ?_ | refine S5 ?_ | refine S6 ?_ | refine S7 ?_ | refine S8 ?_ | refine S9 ?_ | refine S10 ?_ | refine S11 ?_ | refine S13 ?_ | refine S15 ?_ | refine S16 ?_ | refine S19 ?_ | refine S20 ?_ | refine S21 ?_ | refine S22 ?_ | refine S28 ?_ | refine S33 ?_ | refine S37 ?_ | refine S38 ?_ | refine S39 ?_ | refine S40 ?_ | refine S41 ?_ | refine S49 ?_)
        refine AW.cvbs (xs := [49 + ((0 : Nat) : Int)]) rfl EVx rfl (by simp) bt_sl bt_u8 bt_str ?_
        repeat (first | refine S0 ?_ | refine S1 ?_ | refine S2 ?_ | refine S4 ?_ | refine S5 ?_ | refine S6 ?_ | refine S7 ?_ | refine S8 ?_ | refine S9 ?_ | refine S10 ?_ | refine S11 ?_ | refine S13 ?_ | refine S15 ?_ | refine S16 ?_ | refine S19 ?_ | refine S20 ?_ | refine S21 ?_ | refine S22 ?_ | refine S28 ?_ | refine S33 ?_ | refine S37 ?_ | refine S38 ?_ | refine S39 ?_ | refine S40 ?_ | refine S41 ?_ | refine S49 ?_)
        refine AW.binf EVx EVx (str_add _ _ (by simp; omega) _ _ _) ?_
        repeat (first | refine S0 ?_ | refine S1 ?_ | refine S2 ?_ | refine S4 ?_ | refine S5 ?_ | refine S6 ?_ | refine S7 ?_ | refine S8 ?_ | refine S9 ?_ | refine S10 ?_ | refine S11 ?_ | refine S13 ?_ | refine S15 ?_ | refine S16 ?_ | refine S19 ?_ | refine S20 ?_ | refine S21 ?_ | refine S22 ?_ | refine S28 ?_ | refine S33 ?_ | refine S37 ?_ | refine S38 ?_ | refine S39 ?_ | refine S40 ?_ | refine S41 ?_ | refine S49 ?_)
        have eb : ([49 + ((0 : Nat) : Int)].map fun n => UInt8.ofNat n.toNat) = [UInt8.ofNat (49 + 0)] := by
          rw [List.map_cons, List.map_nil, show (49 + ((0 : Nat) : Int)).toNat = 49 + 0 by omega]
        rw [eb]
        exact ⟨0 + 1, by omega, by rw [es]; exact SLx, trivial, by omega⟩
      · obtain ⟨j, rfl⟩ : ∃ j, k = j + 1 := ⟨k - 1, by omega⟩
        by_cases hd : bt c j = true
        · have hd1 := bt_one hd
          have es : wrA c (j + 1 + 1) = wrA c (j + 1) := by rw [wrA]; simp [stay, hd]
          repeat (first | refine S0 ?_ | refine S1 ?_ | refine S2 ?_ | refine S4 ?_ | refine S5 ?_ | refine S6 ?_ | refine S7 ?_ | refine S8 ?_ | refine S9 ?_ | refine S10 ?_ | refine S11 ?_ | refine S13 ?_ | refine S15 ?_ | refine S16 ?_ | refine S19 ?_ | refine S20 ?_ | refine S21 ?_ | refine S22 ?_ | refine S28 ?_ | refine S33 ?_ | refine S37 ?_ | refine S38 ?_ | refine S39 ?_ | refine S40 ?_ | refine S41 ?_ | refine S49 ?_)
          refine AW.binf EVx EVx (bshr c (j + 1) rfl rfl (by omega) _ _ _) ?_
          repeat (first | refine S0 ?_ | refine S1 ?_ | refine S2 ?_ | refine S4 ?_ | refine S5 ?_ | refine S6 ?_ | refine S7 ?_ | refine S8 ?_ | refine S9 ?_ | refine S10 ?_ | refine S11 ?_ | refine S13 ?_ | refine S15 ?_ | refine S16 ?_ | refine S19 ?_ | refine S20 ?_ | refine S21 ?_ | refine S22 ?_ | refine S28 ?_ | refine S33 ?_ | refine S37 ?_ | refine S38 ?_ | refine S39 ?_ | refine S40 ?_ | refine S41 ?_ | refine S49 ?_)
          refine AW.binf EVx EVx (band1 _ rfl (div_lt hc) _ _ _) ?_
          rw [hb1]
          repeat (first | refine S0 ?_ | refine S1 ?_ | refine S2 ?_ | refine S4 ?_ | refine S5 ?_ | refine S6 ?_ | refine S7 ?_ | refine S8 ?_ | refine S9 ?_ | refine S10 ?_ | refine S11 ?_ | refine S13 ?_ | refine S15 ?_ | refine S16 ?_ | refine S19 ?_ | refine S20 ?_ | refine S21 ?_ | refine S22 ?_ | refine S28 ?_ | refine S33 ?_ | refine S37 ?_ | refine S38 ?_ | refine S39 ?_ | refine S40 ?_ | refine S41 ?_ | refine S49 ?_)
          refine AW.binf EVx EVx (bshr c j rfl (by omega) (by omega) _ _ _) ?_
          repeat (first | refine S0 ?_ | refine S1 ?_ | refine S2 ?_ | refine S4 ?_ | refine S5 ?_ | refine S6 ?_ | refine S7 ?_ | refine S8 ?_ | refine S9 ?_ | refine S10 ?_ | refine S11 ?_ | refine S13 ?_ | refine S15 ?_ | refine S16 ?_ | refine S19 ?_ | refine S20 ?_ | refine S21 ?_ | refine S22 ?_ | refine S28 ?_ | refine S33 ?_ | refine S37 ?_ | refine S38 ?_ | refine S39 ?_ | refine S40 ?_ | refine S41 ?_ | refine S49 ?_)
          refine AW.binf EVx EVx (band1 _ rfl (div_lt hc) _ _ _) ?_
          rw [hd1]
          repeat (first | refine S0 ?_ | refine S1 ?_ | refine S2 ?_ | refine S4 ?_ | refine S5 ?_ | refine S6 ?_ | refine S7 ?_ | refine S8 ?_ | refine S9 ?_ | refine S10 ?_ | refine S11 ?_ | refine S13 ?_ | refine S15 ?_ | refine S16 ?_ | refine S19 ?_ | refine S20 ?_ | refine S21 ?_ | refine S22 ?_ | refine S28 ?_ | refine S33 ?_ | refine S37 ?_ | refine S38 ?_ | refine S39 ?_ | refine S40 ?_ | refine S41 ?_ | refine S49 ?_)
          exact ⟨j + 1 + 1, by omega, by rw [es]; exact SLx, trivial, by omega⟩
        · have hd1 := bt_zero hd
          have es : wrA c (j + 1 + 1) = wrA c (j + 1) ++ [UInt8.ofNat (49 + (j + 1))] := by rw [wrA]; simp [stay, hd, hb]
          repeat (first | refine S0 ?_ | refine S1 ?_ | refine S2 ?_ | refine S4 ?_ | refine S5 ?_ | refine S6 ?_ | refine S7 ?_ | refine S8 ?_ | refine S9 ?_ | refine S10 ?_ | refine S11 ?_ | refine S13 ?_ | refine S15 ?_ | refine S16 ?_ | refine S19 ?_ | refine S20 ?_ | refine S21 ?_ | refine S22 ?_ | refine S28 ?_ | refine S33 ?_ | refine S37 ?_ | refine S38 ?_ | refine S39 ?_ | refine S40 ?_ | refine S41 ?_ | refine S49 ?_)
          refine AW.binf EVx EVx (bshr c (j + 1) rfl rfl (by omega) _ _ _) ?_
          repeat (first | refine S0 ?_ | refine S1 ?_ | refine S2 ?_ | refine S4 ?_ | refine S5 ?_ | refine S6 ?_ | refine S7 ?_ | refine S8 ?_ | refine S9 ?_ | refine S10 ?_ | refine S11 ?_ | refine S13 ?_ | refine S15 ?_ | refine S16 ?_ | refine S19 ?_ | refine S20 ?_ | refine S21 ?_ | refine S22 ?_ | refine S28 ?_ | refine S33 ?_ | refine S37 ?_ | refine S38 ?_ | refine S39 ?_ | refine S40 ?_ | refine S41 ?_ | refine S49 ?_)
          refine AW.binf EVx EVx (band1 _ rfl (div_lt hc) _ _ _) ?_
          rw [hb1]
          repeat (first | refine S0 ?_ | refine S1 ?_ | refine S2 ?_ | refine S4 ?_ | refine S5 ?_ | refine S6 ?_ | refine S7 ?_ | refine S8 ?_ | refine S9 ?_ | refine S10 ?_ | refine S11 ?_ | refine S13 ?_ | refine S15 ?_ | refine S16 ?_ | refine S19 ?_ | refine S20 ?_ | refine S21 ?_ | refine S22 ?_ | refine S28 ?_ | refine S33 ?_ | refine S37 ?_ | refine S38 ?_ | refine S39 ?_ | refine S40 ?_ | refine S41 ?_ | refine S49 ?_)
          refine AW.binf EVx EVx (bshr c j rfl (by omega) (by omega) _ _ _) ?_
          repeat (first | refine S0 ?_ | refine S1 ?_ | refine S2 ?_ | refine S4 ?_ | refine S5 ?_ | refine S6 ?_ | refine S7 ?_ | refine S8 ?_ | refine S9 ?_ | refine S10 ?_ | refine S11 ?_ | refine S13 ?_ | refine S15 ?_ | refine S16 ?_ | refine S19 ?_ | refine S20 ?_ | refine S21 ?_ | refine S22 ?_ | refine S28 ?_ | refine S33 ?_ | refine S37 ?_ | refine S38 ?_ | refine S39 ?_ | refine S40 ?_ | refine S41 ?_ | refine S49 ?_)
          refine AW.binf EVx EVx (band1 _ rfl (div_lt hc) _ _ _) ?_
          rw [hd1]
          repeat (first | refine S0 ?_ | refine S1 ?_ | refine S2 ?_ | refine S4 ?_ | refine S5 ?_ | refine S6 ?_ | refine S7 ?_ | refine S8 ?_ | refine S9 ?_ | refine S10 ?_ | refine S11 ?_ | refine S13 ?_ | refine S15 ?_ | refine S16 ?_ | refine S19 ?_ | refine S20 ?_ | refine S21 ?_ | refine S22 ?_ | refine S28 ?_ | refine S33 ?_ | refine S37 ?_ | refine S38 ?_ | refine S39 ?_ | refine S40 ?_ | refine S41 ?_ | refine S49 ?_)
          refine AW.conv EVx (cv_byte (j + 1) (by omega)) ?_
          repeat (first | refine S0 ?_ | refine S1 ?_ | refine S2 ?_ | refine S4 ?_ | refine S5 ?_ | refine S6 ?_ | refine S7 ?_ | refine S8 ?_ | refine S9 ?_ | refine S10 ?_ | refine S11 ?_ | refine S13 ?_ | refine S15 ?_ | refine S16 ?_ | refine S19 ?_ | refine S20 ?_ | refine S21 ?_ | refine S22 ?_ | refine S28 ?_ | refine S33 ?_ | refine S37 ?_ | refine S38 ?_ | refine S39 ?_ | refine S40 ?_ | refine S41 ?_ | refine S49 ?_)
          refine AW.cvbs (xs := [49 + (((j + 1) : Nat) : Int)]) rfl EVx rfl (by simp) bt_sl bt_u8 bt_str ?_
          repeat (first | refine S0 ?_ | refine S1 ?_ | refine S2 ?_ | refine S4 ?_ | refine S5 ?_ | refine S6 ?_ | refine S7 ?_ | refine S8 ?_ | refine S9 ?_ | refine S10 ?_ | refine S11 ?_ | refine S13 ?_ | refine S15 ?_ | refine S16 ?_ | refine S19 ?_ | refine S20 ?_ | refine S21 ?_ | refine S22 ?_ | refine S28 ?_ | refine S33 ?_ | refine S37 ?_ | refine S38 ?_ | refine S39 ?_ | refine S40 ?_ | refine S41 ?_ | refine S49 ?_)
          refine AW.binf EVx EVx (str_add _ _ (by simp; omega) _ _ _) ?_
          repeat (first | refine S0 ?_ | refine S1 ?_ | refine S2 ?_ | refine S4 ?_ | refine S5 ?_ | refine S6 ?_ | refine S7 ?_ | refine S8 ?_ | refine S9 ?_ | refine S10 ?_ | refine S11 ?_ | refine S13 ?_ | refine S15 ?_ | refine S16 ?_ | refine S19 ?_ | refine S20 ?_ | refine S21 ?_ | refine S22 ?_ | refine S28 ?_ | refine S33 ?_ | refine S37 ?_ | refine S38 ?_ | refine S39 ?_ | refine S40 ?_ | refine S41 ?_ | refine S49 ?_)
          have eb : ([49 + (((j + 1) : Nat) : Int)].map fun n => UInt8.ofNat n.toNat) = [UInt8.ofNat (49 + (j + 1))] := by
            rw [List.map_cons, List.map_nil, show (49 + (((j + 1) : Nat) : Int)).toNat = 49 + (j + 1) by omega]
          rw [eb]
          exact ⟨(j + 1) + 1, by omega, by rw [es]; exact SLx, trivial, by omega⟩
  · obtain rfl : k = n := by omega
    repeat (first | refine S0 ?_ | refine S1 ?_ | refine S2 ?_ | refine S4 ?_ | refine S5 ?_ | refine S6 ?_ | refine S7 ?_ | refine S8 ?_ | refine S9 ?_ | refine S10 ?_ | refine S11 ?_ | refine S13 ?_ | refine S15 ?_ | refine S16 ?_ | refine S19 ?_ | refine S20 ?_ | refine S21 ?_ | refine S22 ?_ | refine S28 ?_ | refine S33 ?_ | refine S37 ?_ | refine S38 ?_ | refine S39 ?_ | refine S40 ?_ | refine S41 ?_ | refine S49 ?_)
    refine AW.binf (vy := .string (bsB [])) EVx EVx (str_eql _ [] _ _ _) ?_
    by_cases he : wrA c k = []
    · rw [decide_eq_true he, show wrt k c = [120] from if_pos he]
      repeat (first | refine S0 ?_ | refine S1 ?_ | refine S2 ?_ | refine S4 ?_ | refine S5 ?_ | refine S6 ?_ | refine S7 ?_ | refine S8 ?_ | refine S9 ?_ | refine S10 ?_ | refine S11 ?_ | refine S13 ?_ | refine S15 ?_ | refine S16 ?_ | refine S19 ?_ | refine S20 ?_ | refine S21 ?_ | refine S22 ?_ | refine S28 ?_ | refine S33 ?_ | refine S37 ?_ | refine S38 ?_ | refine S39 ?_ | refine S40 ?_ | refine S41 ?_ | refine S49 ?_)
      exact ⟨.inr rfl, .cl rfl⟩
    · rw [decide_eq_false he, show wrt k c = wrA c k from if_neg he]
      repeat (first | refine S0 ?_ | refine S1 ?_ | refine S2 ?_ | refine S4 ?_ | refine S5 ?_ | refine S6 ?_ | refine S7 ?_ | refine S8 ?_ | refine S9 ?_ | refine S10 ?_ | refine S11 ?_ | refine S13 ?_ | refine S15 ?_ | refine S16 ?_ | refine S19 ?_ | refine S20 ?_ | refine S21 ?_ | refine S22 ?_ | refine S28 ?_ | refine S33 ?_ | refine S37 ?_ | refine S38 ?_ | refine S39 ?_ | refine S40 ?_ | refine S41 ?_ | refine S49 ?_)
      exact ⟨.inr rfl, .cl rfl⟩
end Go.Proofs.YtkmkcbkfakoomaaDoor
