/- Facts and contracts that the claim uses. No condition of its own. -/
import Derived.Test.YtkmkcbkfakoomaaDoorGRingTextsBU
import Derived.Test.YtkmkcbkfakoomaaDoorGRingTextsBV
set_option linter.unusedVariables false
set_option linter.unusedSimpArgs false
namespace Go.Proofs.YtkmkcbkfakoomaaDoor
open Go.RowKit
theorem itoa_s (k : Nat) (hk : k < 9) : SC Tryd.prog 31 [pint ((k + 1 : Nat) : Int)] (pstr [UInt8.ofNat (49 + k)]) := by
  have e : Lib.decDigits (k + 1) = [UInt8.ofNat (49 + k)] := by
    rw [Lib.decDigits, dif_pos (by omega)]
    rw [show 49 + k = 48 + (k + 1) by omega]
  exact SC.flat (args := [.int .i64 ((k + 1 : Nat) : Int)]) (callable Tryd.func31 rfl rfl) fun w => (Tryd.strconv_Itoa_small (k + 1) (by omega) w).mono fun e2 w' ⟨h1, h2⟩ => ⟨by rw [h1, e]; rfl, by subst h2; exact Below.refl _ _⟩
set_option maxHeartbeats 4000000 in
set_option maxRecDepth 100000 in
theorem called_s {n c : Nat} (hn : n ≤ 7) (hc : c < 64) : SC Tryd.prog 19 [pint n, pint c] (pstr (wrt n c)) := by
  refine SC.go {} tok mixed Tryd.func19 rfl rfl Tryd.ntmps19 rfl rfl (by kernel_rfl) ?_
  first | simp only [updS] | simp only [updL, Nat.reduceAdd]
  repeat (first | refine S0 ?_ | refine S1 ?_ | refine S2 ?_ | refine S4 ?_ | refine S5 ?_ | refine S6 ?_ | refine S7 ?_ | refine S8 ?_ | refine S9 ?_ | refine S10 ?_ | refine S11 ?_ | refine S13 ?_ | refine S15 ?_ | refine S16 ?_ | refine S19 ?_ | refine S20 ?_ | refine S21 ?_ | refine S22 ?_ | refine S28 ?_ | refine S33 ?_ | refine S37 ?_ | refine S38 ?_ | refine S39 ?_ | refine S40 ?_ | refine S41 ?_)
  refine CW.loopS (fun k : Nat => k ≤ n) (fun k => [(0, pint n), (1, pint c), (5, pstr (wrA c k)), (7, pint n), (8, pint k)]) (fun _ _ => True) (fun k => n - k) 0 ⟨Nat.zero_le _, SLx, trivial⟩ ?_
  intro k t h hk _
  first | simp only [updS] | simp only [updL, Nat.reduceAdd]
  have hwl := wrA_len c k
  by_cases hk2 : k < n
  · have ki := itoa_s k (by omega)
    by_cases hb : bt c k = true
    · have hb1 := bt_one hb
      have es : wrA c (k + 1) = wrA c k := by simp [wrA, stay, hb]
      repeat (first | refine S0 ?_ | refine S1 ?_ | refine S2 ?_ | refine S4 ?_ | refine S5 ?_ | refine S6 ?_ | refine S7 ?_ | refine S8 ?_ | refine S9 ?_ | refine S10 ?_ | refine S11 ?_ | refine S13 ?_ | refine S15 ?_ | refine S16 ?_ | refine S19 ?_ | refine S20 ?_ | refine S21 ?_ | refine S22 ?_ | refine S28 ?_ | refine S33 ?_ | refine S37 ?_ | refine S38 ?_ | refine S39 ?_ | refine S40 ?_ | refine S41 ?_)
      refine AW.binf EVx EVx (bshr c k rfl rfl (by omega) _ _ _) ?_
      repeat (first | refine S0 ?_ | refine S1 ?_ | refine S2 ?_ | refine S4 ?_ | refine S5 ?_ | refine S6 ?_ | refine S7 ?_ | refine S8 ?_ | refine S9 ?_ | refine S10 ?_ | refine S11 ?_ | refine S13 ?_ | refine S15 ?_ | refine S16 ?_ | refine S19 ?_ | refine S20 ?_ | refine S21 ?_ | refine S22 ?_ | refine S28 ?_ | refine S33 ?_ | refine S37 ?_ | refine S38 ?_ | refine S39 ?_ | refine S40 ?_ | refine S41 ?_)
      refine AW.binf EVx EVx (band1 _ rfl (div_lt hc) _ _ _) ?_
      rw [hb1]
      repeat (first | refine S0 ?_ | refine S1 ?_ | refine S2 ?_ | refine S4 ?_ | refine S5 ?_ | refine S6 ?_ | refine S7 ?_ | refine S8 ?_ | refine S9 ?_ | refine S10 ?_ | refine S11 ?_ | refine S13 ?_ | refine S15 ?_ | refine S16 ?_ | refine S19 ?_ | refine S20 ?_ | refine S21 ?_ | refine S22 ?_ | refine S28 ?_ | refine S33 ?_ | refine S37 ?_ | refine S38 ?_ | refine S39 ?_ | refine S40 ?_ | refine S41 ?_)
      exact ⟨k + 1, by omega, by rw [es]; exact SLx, trivial, by omega⟩
    · have hb1 := bt_zero hb
      by_cases h0 : k = 0
      · subst h0
        have es : wrA c (0 + 1) = wrA c 0 ++ [UInt8.ofNat (49 + 0)] := by show wrA c 0 ++ (if stay c 0 = true then _ else _) = _; rw [if_pos (by simp [stay, hb])]
        repeat (first | refine S0 ?_ | refine S1 ?_ | refine S2 ?_ | refine S4 ?_ | refine S5 ?_ | refine S6 ?_ | refine S7 ?_ | refine S8 ?_ | refine S9 ?_ | refine S10 ?_ | refine S11 ?_ | refine S13 ?_ | refine S15 ?_ | refine S16 ?_ | refine S19 ?_ | refine S20 ?_ | refine S21 ?_ | refine S22 ?_ | refine S28 ?_ | refine S33 ?_ | refine S37 ?_ | refine S38 ?_ | refine S39 ?_ | refine S40 ?_ | refine S41 ?_)
        refine AW.binf EVx EVx (bshr c 0 rfl rfl (by omega) _ _ _) ?_
        repeat (first | refine S0 ?_ | refine S1 ?_ | refine S2 ?_ | refine S4 ?_ | refine S5 ?_ | refine S6 ?_ | refine S7 ?_ | refine S8 ?_ | refine S9 ?_ | refine S10 ?_ | refine S11 ?_ | refine S13 ?_ | refine S15 ?_ | refine S16 ?_ | refine S19 ?_ | refine S20 ?_ | refine S21 ?_ | refine S22 ?_ | refine S28 ?_ | refine S33 ?_ | refine S37 ?_ | refine S38 ?_ | refine S39 ?_ | refine S40 ?_ | refine S41 ?_)
        refine AW.binf EVx EVx (band1 _ rfl (div_lt hc) _ _ _) ?_
        rw [hb1]
        repeat (first | refine S0 ?_ | refine S1 ?_ | refine S2 ?_ | refine S4 ?_ | refine S5 ?_ | refine S6 ?_ | refine S7 ?_ | refine S8 ?_ | refine S9 ?_ | refine S10 ?_ | refine S11 ?_ | refine S13 ?_ | refine S15 ?_ | refine S16 ?_ | refine S19 ?_ | refine S20 ?_ | refine S21 ?_ | refine S22 ?_ | refine S28 ?_ | refine S33 ?_ | refine S37 ?_ | refine S38 ?_ | refine S39 ?_ | refine S40 ?_ | refine S41 ?_)
        refine Scall (args := [pint ((0 + 1 : Nat) : Int)]) ki ?_
        repeat (first | refine S0 ?_ | refine S1 ?_ | refine S2 ?_ | refine S4 ?_ | refine S5 ?_ | refine S6 ?_ | refine S7 ?_ | refine S8 ?_ | refine S9 ?_ | refine S10 ?_ | refine S11 ?_ | refine S13 ?_ | refine S15 ?_ | refine S16 ?_ | refine S19 ?_ | refine S20 ?_ | refine S21 ?_ | refine S22 ?_ | refine S28 ?_ | refine S33 ?_ | refine S37 ?_ | refine S38 ?_ | refine S39 ?_ | refine S40 ?_ | refine S41 ?_)
        refine AW.binf EVx EVx (str_add _ _ (by simp; omega) _ _ _) ?_
        repeat (first | refine S0 ?_ | refine S1 ?_ | refine S2 ?_ | refine S4 ?_ | refine S5 ?_ | refine S6 ?_ | refine S7 ?_ | refine S8 ?_ | refine S9 ?_ | refine S10 ?_ | refine S11 ?_ | refine S13 ?_ | refine S15 ?_ | refine S16 ?_ | refine S19 ?_ | refine S20 ?_ | refine S21 ?_ | refine S22 ?_ | refine S28 ?_ | refine S33 ?_ | refine S37 ?_ | refine S38 ?_ | refine S39 ?_ | refine S40 ?_ | refine S41 ?_)
        exact ⟨0 + 1, by omega, by rw [es]; exact SLx, trivial, by omega⟩
      · obtain ⟨j, rfl⟩ : ∃ j, k = j + 1 := ⟨k - 1, by omega⟩
        by_cases hd : bt c j = true
        · have hd1 := bt_one hd
          have es : wrA c (j + 1 + 1) = wrA c (j + 1) := by rw [wrA]; simp [stay, hd]
          repeat (first | refine S0 ?_ | refine S1 ?_ | refine S2 ?_ | refine S4 ?_ | refine S5 ?_ | refine S6 ?_ | refine S7 ?_ | refine S8 ?_ | refine S9 ?_ | refine S10 ?_ | refine S11 ?_ | refine S13 ?_ | refine S15 ?_ | refine S16 ?_ | refine S19 ?_ | refine S20 ?_ | refine S21 ?_ | refine S22 ?_ | refine S28 ?_ | refine S33 ?_ | refine S37 ?_ | refine S38 ?_ | refine S39 ?_ | refine S40 ?_ | refine S41 ?_)
          refine AW.binf EVx EVx (bshr c (j + 1) rfl rfl (by omega) _ _ _) ?_
          repeat (first | refine S0 ?_ | refine S1 ?_ | refine S2 ?_ | refine S4 ?_ | refine S5 ?_ | refine S6 ?_ | refine S7 ?_ | refine S8 ?_ | refine S9 ?_ | refine S10 ?_ | refine S11 ?_ | refine S13 ?_ | refine S15 ?_ | refine S16 ?_ | refine S19 ?_ | refine S20 ?_ | refine S21 ?_ | refine S22 ?_ | refine S28 ?_ | refine S33 ?_ | refine S37 ?_ | refine S38 ?_ | refine S39 ?_ | refine S40 ?_ | refine S41 ?_)
          refine AW.binf EVx EVx (band1 _ rfl (div_lt hc) _ _ _) ?_
          rw [hb1]
          repeat (first | refine S0 ?_ | refine S1 ?_ | refine S2 ?_ | refine S4 ?_ | refine S5 ?_ | refine S6 ?_ | refine S7 ?_ | refine S8 ?_ | refine S9 ?_ | refine S10 ?_ | refine S11 ?_ | refine S13 ?_ | refine S15 ?_ | refine S16 ?_ | refine S19 ?_ | refine S20 ?_ | refine S21 ?_ | refine S22 ?_ | refine S28 ?_ | refine S33 ?_ | refine S37 ?_ | refine S38 ?_ | refine S39 ?_ | refine S40 ?_ | refine S41 ?_)
          refine AW.binf EVx EVx (bshr c j rfl (by omega) (by omega) _ _ _) ?_
          repeat (first | refine S0 ?_ | refine S1 ?_ | refine S2 ?_ | refine S4 ?_ | refine S5 ?_ | refine S6 ?_ | refine S7 ?_ | refine S8 ?_ | refine S9 ?_ | refine S10 ?_ | refine S11 ?_ | refine S13 ?_ | refine S15 ?_ | refine S16 ?_ | refine S19 ?_ | refine S20 ?_ | refine S21 ?_ | refine S22 ?_ | refine S28 ?_ | refine S33 ?_ | refine S37 ?_ | refine S38 ?_ | refine S39 ?_ | refine S40 ?_ | refine S41 ?_)
          refine AW.binf EVx EVx (band1 _ rfl (div_lt hc) _ _ _) ?_
          rw [hd1]
          repeat (first | refine S0 ?_ | refine S1 ?_ | refine S2 ?_ | refine S4 ?_ | refine S5 ?_ | refine S6 ?_ | refine S7 ?_ | refine S8 ?_ | refine S9 ?_ | refine S10 ?_ | refine S11 ?_ | refine S13 ?_ | refine S15 ?_ | refine S16 ?_ | refine S19 ?_ | refine S20 ?_ | refine S21 ?_ | refine S22 ?_ | refine S28 ?_ | refine S33 ?_ | refine S37 ?_ | refine S38 ?_ | refine S39 ?_ | refine S40 ?_ | refine S41 ?_)
          exact ⟨j + 1 + 1, by omega, by rw [es]; exact SLx, trivial, by omega⟩
        · have hd1 := bt_zero hd
          have es : wrA c (j + 1 + 1) = wrA c (j + 1) ++ [UInt8.ofNat (49 + (j + 1))] := by rw [wrA]; simp [stay, hd, hb]
          repeat (first | refine S0 ?_ | refine S1 ?_ | refine S2 ?_ | refine S4 ?_ | refine S5 ?_ | refine S6 ?_ | refine S7 ?_ | refine S8 ?_ | refine S9 ?_ | refine S10 ?_ | refine S11 ?_ | refine S13 ?_ | refine S15 ?_ | refine S16 ?_ | refine S19 ?_ | refine S20 ?_ | refine S21 ?_ | refine S22 ?_ | refine S28 ?_ | refine S33 ?_ | refine S37 ?_ | refine S38 ?_ | refine S39 ?_ | refine S40 ?_ | refine S41 ?_)
          refine AW.binf EVx EVx (bshr c (j + 1) rfl rfl (by omega) _ _ _) ?_
          repeat (first | refine S0 ?_ | refine S1 ?_ | refine S2 ?_ | refine S4 ?_ | refine S5 ?_ | refine S6 ?_ | refine S7 ?_ | refine S8 ?_ | refine S9 ?_ | refine S10 ?_ | refine S11 ?_ | refine S13 ?_ | refine S15 ?_ | refine S16 ?_ | refine S19 ?_ | refine S20 ?_ | refine S21 ?_ | refine S22 ?_ | refine S28 ?_ | refine S33 ?_ | refine S37 ?_ | refine S38 ?_ | refine S39 ?_ | refine S40 ?_ | refine S41 ?_)
          refine AW.binf EVx EVx (band1 _ rfl (div_lt hc) _ _ _) ?_
          rw [hb1]
          repeat (first | refine S0 ?_ | refine S1 ?_ | refine S2 ?_ | refine S4 ?_ | refine S5 ?_ | refine S6 ?_ | refine S7 ?_ | refine S8 ?_ | refine S9 ?_ | refine S10 ?_ | refine S11 ?_ | refine S13 ?_ | refine S15 ?_ | refine S16 ?_ | refine S19 ?_ | refine S20 ?_ | refine S21 ?_ | refine S22 ?_ | refine S28 ?_ | refine S33 ?_ | refine S37 ?_ | refine S38 ?_ | refine S39 ?_ | refine S40 ?_ | refine S41 ?_)
          refine AW.binf EVx EVx (bshr c j rfl (by omega) (by omega) _ _ _) ?_
          repeat (first | refine S0 ?_ | refine S1 ?_ | refine S2 ?_ | refine S4 ?_ | refine S5 ?_ | refine S6 ?_ | refine S7 ?_ | refine S8 ?_ | refine S9 ?_ | refine S10 ?_ | refine S11 ?_ | refine S13 ?_ | refine S15 ?_ | refine S16 ?_ | refine S19 ?_ | refine S20 ?_ | refine S21 ?_ | refine S22 ?_ | refine S28 ?_ | refine S33 ?_ | refine S37 ?_ | refine S38 ?_ | refine S39 ?_ | refine S40 ?_ | refine S41 ?_)
          refine AW.binf EVx EVx (band1 _ rfl (div_lt hc) _ _ _) ?_
          rw [hd1]
          repeat (first | refine S0 ?_ | refine S1 ?_ | refine S2 ?_ | refine S4 ?_ | refine S5 ?_ | refine S6 ?_ | refine S7 ?_ | refine S8 ?_ | refine S9 ?_ | refine S10 ?_ | refine S11 ?_ | refine S13 ?_ | refine S15 ?_ | refine S16 ?_ | refine S19 ?_ | refine S20 ?_ | refine S21 ?_ | refine S22 ?_ | refine S28 ?_ | refine S33 ?_ | refine S37 ?_ | refine S38 ?_ | refine S39 ?_ | refine S40 ?_ | refine S41 ?_)
          refine Scall (args := [pint ((j + 1 + 1 : Nat) : Int)]) ki ?_
          repeat (first | refine S0 ?_ | refine S1 ?_ | refine S2 ?_ | refine S4 ?_ | refine S5 ?_ | refine S6 ?_ | refine S7 ?_ | refine S8 ?_ | refine S9 ?_ | refine S10 ?_ | refine S11 ?_ | refine S13 ?_ | refine S15 ?_ | refine S16 ?_ | refine S19 ?_ | refine S20 ?_ | refine S21 ?_ | refine S22 ?_ | refine S28 ?_ | refine S33 ?_ | refine S37 ?_ | refine S38 ?_ | refine S39 ?_ | refine S40 ?_ | refine S41 ?_)
          refine AW.binf EVx EVx (str_add _ _ (by simp; omega) _ _ _) ?_
          repeat (first | refine S0 ?_ | refine S1 ?_ | refine S2 ?_ | refine S4 ?_ | refine S5 ?_ | refine S6 ?_ | refine S7 ?_ | refine S8 ?_ | refine S9 ?_ | refine S10 ?_ | refine S11 ?_ | refine S13 ?_ | refine S15 ?_ | refine S16 ?_ | refine S19 ?_ | refine S20 ?_ | refine S21 ?_ | refine S22 ?_ | refine S28 ?_ | refine S33 ?_ | refine S37 ?_ | refine S38 ?_ | refine S39 ?_ | refine S40 ?_ | refine S41 ?_)
          exact ⟨j + 1 + 1, by omega, by rw [es]; exact SLx, trivial, by omega⟩
  · obtain rfl : k = n := by omega
    repeat (first | refine S0 ?_ | refine S1 ?_ | refine S2 ?_ | refine S4 ?_ | refine S5 ?_ | refine S6 ?_ | refine S7 ?_ | refine S8 ?_ | refine S9 ?_ | refine S10 ?_ | refine S11 ?_ | refine S13 ?_ | refine S15 ?_ | refine S16 ?_ | refine S19 ?_ | refine S20 ?_ | refine S21 ?_ | refine S22 ?_ | refine S28 ?_ | refine S33 ?_ | refine S37 ?_ | refine S38 ?_ | refine S39 ?_ | refine S40 ?_ | refine S41 ?_)
    refine AW.binf (vy := .string (bsB [])) EVx EVx (str_eql _ [] _ _ _) ?_
    by_cases he : wrA c k = []
    · rw [decide_eq_true he, show wrt k c = [120] from if_pos he]
      repeat (first | refine S0 ?_ | refine S1 ?_ | refine S2 ?_ | refine S4 ?_ | refine S5 ?_ | refine S6 ?_ | refine S7 ?_ | refine S8 ?_ | refine S9 ?_ | refine S10 ?_ | refine S11 ?_ | refine S13 ?_ | refine S15 ?_ | refine S16 ?_ | refine S19 ?_ | refine S20 ?_ | refine S21 ?_ | refine S22 ?_ | refine S28 ?_ | refine S33 ?_ | refine S37 ?_ | refine S38 ?_ | refine S39 ?_ | refine S40 ?_ | refine S41 ?_)
      exact ⟨.inr rfl, .cl rfl⟩
    · rw [decide_eq_false he, show wrt k c = wrA c k from if_neg he]
      repeat (first | refine S0 ?_ | refine S1 ?_ | refine S2 ?_ | refine S4 ?_ | refine S5 ?_ | refine S6 ?_ | refine S7 ?_ | refine S8 ?_ | refine S9 ?_ | refine S10 ?_ | refine S11 ?_ | refine S13 ?_ | refine S15 ?_ | refine S16 ?_ | refine S19 ?_ | refine S20 ?_ | refine S21 ?_ | refine S22 ?_ | refine S28 ?_ | refine S33 ?_ | refine S37 ?_ | refine S38 ?_ | refine S39 ?_ | refine S40 ?_ | refine S41 ?_)
      exact ⟨.inr rfl, .cl rfl⟩
set_option maxHeartbeats 8000000 in
set_option maxRecDepth 100000 in
theorem notation_s {n : Nat} (hn : n ≤ 7) {l : List Int} (hl : l.length ≤ 20000) (hg : ∀ x ∈ l, 0 ≤ x ∧ x < 64) : SC Tryd.prog 7 [pint n, pli l] (pstr (txt n l)) := by
  refine SC.go {} tok mixed Tryd.func7 rfl rfl Tryd.ntmps7 rfl rfl (by kernel_rfl) ?_
  first | simp only [updS] | simp only [updL, Nat.reduceAdd]
  repeat (first | refine S0 ?_ | refine S1 ?_ | refine S2 ?_ | refine S4 ?_ | refine S5 ?_ | refine S6 ?_ | refine S7 ?_ | refine S8 ?_ | refine S10 ?_ | refine S11 ?_ | refine S13 ?_ | refine S15 ?_ | refine S16 ?_ | refine S19 ?_ | refine S20 ?_ | refine S21 ?_ | refine S22 ?_ | refine S23 ?_ | refine S25 ?_ | refine S26 ?_ | refine S30 ?_ | refine S33 ?_ | refine S37 ?_ | refine S38 ?_ | refine S40 ?_ | refine S41 ?_)
  refine CW.loopS (fun k : Nat => k ≤ l.length) (fun k => [(0, pint n), (1, pli l), (5, pstr (txA n l k)), (8, pli l), (9, pint l.length), (10, pint k)]) (fun _ _ => True) (fun k => l.length - k) 0 ⟨Nat.zero_le _, SLx, trivial⟩ ?_
  intro k t h hk _
  first | simp only [updS] | simp only [updL, Nat.reduceAdd]
  have htl := txA_len n l k
  have hkn : k * (n + 2) ≤ 20000 * 9 := Nat.mul_le_mul (by omega) (by omega)
  by_cases hk2 : k < l.length
  · have hx := hg (l.getD k 0) (by rw [getD_lt 0 hk2]; exact List.getElem_mem hk2)
    have es : txA n l (k + 1) = txA n l k ++ (if wrt n (l.getD k 0).toNat ≠ [120] ∧ bfr n l k ≠ [120] then [46] else []) ++ wrt n (l.getD k 0).toNat := rfl
    obtain ⟨c, hc⟩ : ∃ c : Nat, l.getD k 0 = c := ⟨(l.getD k 0).toNat, by omega⟩
    rw [hc, Int.toNat_natCast] at es
    have kw := called_s (n := n) hn (c := c) (by omega)
    have hwl := wrt_len n c
    by_cases h0 : k = 0
    · subst h0
      rw [show bfr n l 0 = [120] from rfl, if_neg (fun c => c.2 rfl), List.append_nil] at es
      repeat (first | refine S0 ?_ | refine S1 ?_ | refine S2 ?_ | refine S4 ?_ | refine S5 ?_ | refine S6 ?_ | refine S7 ?_ | refine S8 ?_ | refine S10 ?_ | refine S11 ?_ | refine S13 ?_ | refine S15 ?_ | refine S16 ?_ | refine S19 ?_ | refine S20 ?_ | refine S21 ?_ | refine S22 ?_ | refine S23 ?_ | refine S25 ?_ | refine S26 ?_ | refine S30 ?_ | refine S33 ?_ | refine S37 ?_ | refine S38 ?_ | refine S40 ?_ | refine S41 ?_)
      rw [hc]
      refine Scall (args := [pint n, pint c]) kw ?_
      repeat (first | refine S0 ?_ | refine S1 ?_ | refine S2 ?_ | refine S4 ?_ | refine S5 ?_ | refine S6 ?_ | refine S7 ?_ | refine S8 ?_ | refine S10 ?_ | refine S11 ?_ | refine S13 ?_ | refine S15 ?_ | refine S16 ?_ | refine S19 ?_ | refine S20 ?_ | refine S21 ?_ | refine S22 ?_ | refine S23 ?_ | refine S25 ?_ | refine S26 ?_ | refine S30 ?_ | refine S33 ?_ | refine S37 ?_ | refine S38 ?_ | refine S40 ?_ | refine S41 ?_)
      refine AW.binf EVx EVx (str_add _ _ (by omega) _ _ _) ?_
      repeat (first | refine S0 ?_ | refine S1 ?_ | refine S2 ?_ | refine S4 ?_ | refine S5 ?_ | refine S6 ?_ | refine S7 ?_ | refine S8 ?_ | refine S10 ?_ | refine S11 ?_ | refine S13 ?_ | refine S15 ?_ | refine S16 ?_ | refine S19 ?_ | refine S20 ?_ | refine S21 ?_ | refine S22 ?_ | refine S23 ?_ | refine S25 ?_ | refine S26 ?_ | refine S30 ?_ | refine S33 ?_ | refine S37 ?_ | refine S38 ?_ | refine S40 ?_ | refine S41 ?_)
      exact ⟨0 + 1, by omega, by rw [es]; exact SLx, trivial, by omega⟩
    · obtain ⟨j, rfl⟩ : ∃ j, k = j + 1 := ⟨k - 1, by omega⟩
      have hy := hg (l.getD j 0) (by rw [getD_lt 0 (show j < l.length by omega)]; exact List.getElem_mem _)
      obtain ⟨d, hd⟩ : ∃ d : Nat, l.getD j 0 = d := ⟨(l.getD j 0).toNat, by omega⟩
      rw [show bfr n l (j + 1) = wrt n d by show wrt n (l.getD j 0).toNat = _; rw [hd]; rfl] at es
      have kd := called_s (n := n) hn (c := d) (by omega)
      have ej : (((j + 1 : Nat) : Int) - 1).toNat = j := by omega
      repeat (first | refine S0 ?_ | refine S1 ?_ | refine S2 ?_ | refine S4 ?_ | refine S5 ?_ | refine S6 ?_ | refine S7 ?_ | refine S8 ?_ | refine S10 ?_ | refine S11 ?_ | refine S13 ?_ | refine S15 ?_ | refine S16 ?_ | refine S19 ?_ | refine S20 ?_ | refine S21 ?_ | refine S22 ?_ | refine S23 ?_ | refine S25 ?_ | refine S26 ?_ | refine S30 ?_ | refine S33 ?_ | refine S37 ?_ | refine S38 ?_ | refine S40 ?_ | refine S41 ?_)
      rw [hc]
      refine Scall (args := [pint n, pint c]) kw ?_
      repeat (first | refine S0 ?_ | refine S1 ?_ | refine S2 ?_ | refine S4 ?_ | refine S5 ?_ | refine S6 ?_ | refine S7 ?_ | refine S8 ?_ | refine S10 ?_ | refine S11 ?_ | refine S13 ?_ | refine S15 ?_ | refine S16 ?_ | refine S19 ?_ | refine S20 ?_ | refine S21 ?_ | refine S22 ?_ | refine S23 ?_ | refine S25 ?_ | refine S26 ?_ | refine S30 ?_ | refine S33 ?_ | refine S37 ?_ | refine S38 ?_ | refine S40 ?_ | refine S41 ?_)
      refine AW.binf (vy := .string (bsB [120])) EVx EVx (str_neq _ [120] _ _ _) ?_
      by_cases hw : wrt n c = [120]
      · rw [if_neg (fun c => c.1 hw), List.append_nil] at es
        rw [decide_eq_true hw]
        repeat (first | refine S0 ?_ | refine S1 ?_ | refine S2 ?_ | refine S4 ?_ | refine S5 ?_ | refine S6 ?_ | refine S7 ?_ | refine S8 ?_ | refine S10 ?_ | refine S11 ?_ | refine S13 ?_ | refine S15 ?_ | refine S16 ?_ | refine S19 ?_ | refine S20 ?_ | refine S21 ?_ | refine S22 ?_ | refine S23 ?_ | refine S25 ?_ | refine S26 ?_ | refine S30 ?_ | refine S33 ?_ | refine S37 ?_ | refine S38 ?_ | refine S40 ?_ | refine S41 ?_)
        refine Scall (args := [pint n, pint c]) kw ?_
        repeat (first | refine S0 ?_ | refine S1 ?_ | refine S2 ?_ | refine S4 ?_ | refine S5 ?_ | refine S6 ?_ | refine S7 ?_ | refine S8 ?_ | refine S10 ?_ | refine S11 ?_ | refine S13 ?_ | refine S15 ?_ | refine S16 ?_ | refine S19 ?_ | refine S20 ?_ | refine S21 ?_ | refine S22 ?_ | refine S23 ?_ | refine S25 ?_ | refine S26 ?_ | refine S30 ?_ | refine S33 ?_ | refine S37 ?_ | refine S38 ?_ | refine S40 ?_ | refine S41 ?_)
        refine AW.binf EVx EVx (str_add _ _ (by omega) _ _ _) ?_
        repeat (first | refine S0 ?_ | refine S1 ?_ | refine S2 ?_ | refine S4 ?_ | refine S5 ?_ | refine S6 ?_ | refine S7 ?_ | refine S8 ?_ | refine S10 ?_ | refine S11 ?_ | refine S13 ?_ | refine S15 ?_ | refine S16 ?_ | refine S19 ?_ | refine S20 ?_ | refine S21 ?_ | refine S22 ?_ | refine S23 ?_ | refine S25 ?_ | refine S26 ?_ | refine S30 ?_ | refine S33 ?_ | refine S37 ?_ | refine S38 ?_ | refine S40 ?_ | refine S41 ?_)
        exact ⟨j + 1 + 1, by omega, by rw [es]; exact SLx, trivial, by omega⟩
      · rw [decide_eq_false hw]
        repeat (first | refine S0 ?_ | refine S1 ?_ | refine S2 ?_ | refine S4 ?_ | refine S5 ?_ | refine S6 ?_ | refine S7 ?_ | refine S8 ?_ | refine S10 ?_ | refine S11 ?_ | refine S13 ?_ | refine S15 ?_ | refine S16 ?_ | refine S19 ?_ | refine S20 ?_ | refine S21 ?_ | refine S22 ?_ | refine S23 ?_ | refine S25 ?_ | refine S26 ?_ | refine S30 ?_ | refine S33 ?_ | refine S37 ?_ | refine S38 ?_ | refine S40 ?_ | refine S41 ?_)
        rw [ej, hd]
        refine Scall (args := [pint n, pint d]) kd ?_
        repeat (first | refine S0 ?_ | refine S1 ?_ | refine S2 ?_ | refine S4 ?_ | refine S5 ?_ | refine S6 ?_ | refine S7 ?_ | refine S8 ?_ | refine S10 ?_ | refine S11 ?_ | refine S13 ?_ | refine S15 ?_ | refine S16 ?_ | refine S19 ?_ | refine S20 ?_ | refine S21 ?_ | refine S22 ?_ | refine S23 ?_ | refine S25 ?_ | refine S26 ?_ | refine S30 ?_ | refine S33 ?_ | refine S37 ?_ | refine S38 ?_ | refine S40 ?_ | refine S41 ?_)
        refine AW.binf (vy := .string (bsB [120])) EVx EVx (str_neq _ [120] _ _ _) ?_
        by_cases hv : wrt n d = [120]
        · rw [if_neg (fun c => c.2 hv), List.append_nil] at es
          rw [decide_eq_true hv]
          repeat (first | refine S0 ?_ | refine S1 ?_ | refine S2 ?_ | refine S4 ?_ | refine S5 ?_ | refine S6 ?_ | refine S7 ?_ | refine S8 ?_ | refine S10 ?_ | refine S11 ?_ | refine S13 ?_ | refine S15 ?_ | refine S16 ?_ | refine S19 ?_ | refine S20 ?_ | refine S21 ?_ | refine S22 ?_ | refine S23 ?_ | refine S25 ?_ | refine S26 ?_ | refine S30 ?_ | refine S33 ?_ | refine S37 ?_ | refine S38 ?_ | refine S40 ?_ | refine S41 ?_)
          refine Scall (args := [pint n, pint c]) kw ?_
          repeat (first | refine S0 ?_ | refine S1 ?_ | refine S2 ?_ | refine S4 ?_ | refine S5 ?_ | refine S6 ?_ | refine S7 ?_ | refine S8 ?_ | refine S10 ?_ | refine S11 ?_ | refine S13 ?_ | refine S15 ?_ | refine S16 ?_ | refine S19 ?_ | refine S20 ?_ | refine S21 ?_ | refine S22 ?_ | refine S23 ?_ | refine S25 ?_ | refine S26 ?_ | refine S30 ?_ | refine S33 ?_ | refine S37 ?_ | refine S38 ?_ | refine S40 ?_ | refine S41 ?_)
          refine AW.binf EVx EVx (str_add _ _ (by omega) _ _ _) ?_
          repeat (first | refine S0 ?_ | refine S1 ?_ | refine S2 ?_ | refine S4 ?_ | refine S5 ?_ | refine S6 ?_ | refine S7 ?_ | refine S8 ?_ | refine S10 ?_ | refine S11 ?_ | refine S13 ?_ | refine S15 ?_ | refine S16 ?_ | refine S19 ?_ | refine S20 ?_ | refine S21 ?_ | refine S22 ?_ | refine S23 ?_ | refine S25 ?_ | refine S26 ?_ | refine S30 ?_ | refine S33 ?_ | refine S37 ?_ | refine S38 ?_ | refine S40 ?_ | refine S41 ?_)
          exact ⟨j + 1 + 1, by omega, by rw [es]; exact SLx, trivial, by omega⟩
        · rw [if_pos ⟨hw, hv⟩] at es
          rw [decide_eq_false hv]
          repeat (first | refine S0 ?_ | refine S1 ?_ | refine S2 ?_ | refine S4 ?_ | refine S5 ?_ | refine S6 ?_ | refine S7 ?_ | refine S8 ?_ | refine S10 ?_ | refine S11 ?_ | refine S13 ?_ | refine S15 ?_ | refine S16 ?_ | refine S19 ?_ | refine S20 ?_ | refine S21 ?_ | refine S22 ?_ | refine S23 ?_ | refine S25 ?_ | refine S26 ?_ | refine S30 ?_ | refine S33 ?_ | refine S37 ?_ | refine S38 ?_ | refine S40 ?_ | refine S41 ?_)
          refine AW.binf (vy := .string (bsB [46])) EVx EVx (str_add _ [46] (by simp; omega) _ _ _) ?_
          repeat (first | refine S0 ?_ | refine S1 ?_ | refine S2 ?_ | refine S4 ?_ | refine S5 ?_ | refine S6 ?_ | refine S7 ?_ | refine S8 ?_ | refine S10 ?_ | refine S11 ?_ | refine S13 ?_ | refine S15 ?_ | refine S16 ?_ | refine S19 ?_ | refine S20 ?_ | refine S21 ?_ | refine S22 ?_ | refine S23 ?_ | refine S25 ?_ | refine S26 ?_ | refine S30 ?_ | refine S33 ?_ | refine S37 ?_ | refine S38 ?_ | refine S40 ?_ | refine S41 ?_)
          refine Scall (args := [pint n, pint c]) kw ?_
          repeat (first | refine S0 ?_ | refine S1 ?_ | refine S2 ?_ | refine S4 ?_ | refine S5 ?_ | refine S6 ?_ | refine S7 ?_ | refine S8 ?_ | refine S10 ?_ | refine S11 ?_ | refine S13 ?_ | refine S15 ?_ | refine S16 ?_ | refine S19 ?_ | refine S20 ?_ | refine S21 ?_ | refine S22 ?_ | refine S23 ?_ | refine S25 ?_ | refine S26 ?_ | refine S30 ?_ | refine S33 ?_ | refine S37 ?_ | refine S38 ?_ | refine S40 ?_ | refine S41 ?_)
          refine AW.binf EVx EVx (str_add _ _ (by rw [List.length_append]; simp; omega) _ _ _) ?_
          repeat (first | refine S0 ?_ | refine S1 ?_ | refine S2 ?_ | refine S4 ?_ | refine S5 ?_ | refine S6 ?_ | refine S7 ?_ | refine S8 ?_ | refine S10 ?_ | refine S11 ?_ | refine S13 ?_ | refine S15 ?_ | refine S16 ?_ | refine S19 ?_ | refine S20 ?_ | refine S21 ?_ | refine S22 ?_ | refine S23 ?_ | refine S25 ?_ | refine S26 ?_ | refine S30 ?_ | refine S33 ?_ | refine S37 ?_ | refine S38 ?_ | refine S40 ?_ | refine S41 ?_)
          exact ⟨j + 1 + 1, by omega, by rw [es]; exact SLx, trivial, by omega⟩
  · obtain rfl : k = l.length := by omega
    repeat (first | refine S0 ?_ | refine S1 ?_ | refine S2 ?_ | refine S4 ?_ | refine S5 ?_ | refine S6 ?_ | refine S7 ?_ | refine S8 ?_ | refine S10 ?_ | refine S11 ?_ | refine S13 ?_ | refine S15 ?_ | refine S16 ?_ | refine S19 ?_ | refine S20 ?_ | refine S21 ?_ | refine S22 ?_ | refine S23 ?_ | refine S25 ?_ | refine S26 ?_ | refine S30 ?_ | refine S33 ?_ | refine S37 ?_ | refine S38 ?_ | refine S40 ?_ | refine S41 ?_)
    exact ⟨.inr rfl, .cl rfl⟩
end Go.Proofs.YtkmkcbkfakoomaaDoor
