/- intmatrix.columns, minor. No condition of its own. -/
import Derived.Test.YtgjfpmjllpgadaaGColorCountsBG
set_option linter.unusedVariables false
set_option linter.unusedSimpArgs false
namespace Go.Proofs.Ytgjfpmjllpgadaa
open Go.RowKit

/-- an entry -/
def ent (m : List (List Int)) (r c : Nat) : Int := (m.getD r []).getD c 0
/-- a right matrix: n rows of k numbers -/
structure Mx (m : List (List Int)) (n k : Nat) : Prop where
  len : m.length = n
  hn : n ≤ 6
  hk : k ≤ 6
  row : ∀ r, r < n → (m.getD r []).length = k
  bd : ∀ r c, -100 ≤ ent m r c ∧ ent m r c ≤ 100
  pos : n = 0 → k = 0
set_option maxHeartbeats 2000000 in
set_option maxRecDepth 100000 in
theorem columns_s {m : List (List Int)} {n k : Nat} (h : Mx m n k) : SC Try.prog 133 [plls m] (pint k) := by
  have h1 := h.len
  refine SC.go {} tok mixed Try.func133 rfl rfl Try.ntmps133 rfl rfl (by kernel_rfl) ?_
  first | simp only [updS] | simp only [updL, Nat.reduceAdd]
  by_cases h0 : m.length = 0
  · obtain rfl : k = 0 := h.pos (by omega)
    repeat (first | refine S0 ?_ | refine S1 ?_ | refine S2 ?_ | refine S3 ?_ | refine S4 ?_ | refine S5 ?_ | refine S6 ?_ | refine S7 ?_ | refine S8 ?_ | refine S9 ?_ | refine S10 ?_ | refine S11 ?_ | refine S13 ?_ | refine S15 ?_ | refine S16 ?_ | refine S19 ?_ | refine S20 ?_ | refine S21 ?_ | refine S22 ?_ | refine S23 ?_ | refine S25 ?_ | refine S26 ?_ | refine S28 ?_ | refine S29 ?_ | refine S35 ?_ | refine S51 ?_)
    exact ⟨.inr rfl, .cl rfl⟩
  · have h2 : (m.getD (Int.toNat 0) []).length = k := h.row 0 (by omega)
    repeat (first | refine S0 ?_ | refine S1 ?_ | refine S2 ?_ | refine S3 ?_ | refine S4 ?_ | refine S5 ?_ | refine S6 ?_ | refine S7 ?_ | refine S8 ?_ | refine S9 ?_ | refine S10 ?_ | refine S11 ?_ | refine S13 ?_ | refine S15 ?_ | refine S16 ?_ | refine S19 ?_ | refine S20 ?_ | refine S21 ?_ | refine S22 ?_ | refine S23 ?_ | refine S25 ?_ | refine S26 ?_ | refine S28 ?_ | refine S29 ?_ | refine S35 ?_ | refine S51 ?_)
    rw [h2]
    exact ⟨.inr rfl, .cl rfl⟩
theorem bits_zero : ∀ b : Fin 64, bitsL b.val 6 = [] → b.val = 0 := by decide +kernel
theorem bits_low {b i r : Nat} {rs : List Nat} (h : bitsL b 6 = r :: rs) (hi : i < r) (h6 : r < 6) : b / 2 ^ i % 2 = 0 := by
  have h1 : ¬ b / 2 ^ i % 2 = 1 := fun hb => by
    have hm : i ∈ bitsL b 6 := mem_bits.2 ⟨by omega, hb⟩
    have ha := asc_bits b 6
    rw [h] at hm ha
    rcases List.mem_cons.1 hm with e | hm
    · omega
    · have := (List.pairwise_cons.1 ha).1 i hm; omega
  omega
/-- what is left of the sum over the columns -/
def altF (m : List (List Int)) (r : Nat) (rs : List Nat) : Nat → List Nat → Int := fun c rest => ent m r c * lap (ent m) rs rest
set_option maxHeartbeats 16000000 in
set_option maxRecDepth 100000 in
theorem minor_s {m : List (List Int)} {n k : Nat} (h : Mx m n k) : ∀ (d R C : Nat), R < 64 → C < 64 → (bitsL R 6).length = d → (∀ i, i ∈ bitsL R 6 → i < n) → (bitsL C k).length = d →
    SC Try.prog 144 [plls m, pint R, pint C] (pint (lap (ent m) (bitsL R 6) (bitsL C k)))
  | 0, R, C, hR, hC, hd, hi, hc => by
    have e := List.eq_nil_of_length_eq_zero hd
    have h0 : R = 0 := bits_zero ⟨R, hR⟩ e
    rw [e]
    subst h0
    refine SC.go {} tok mixed Try.func144 rfl rfl Try.ntmps144 rfl rfl (by kernel_rfl) ?_
    first | simp only [updS] | simp only [updL, Nat.reduceAdd]
    repeat (first | refine S0 ?_ | refine S1 ?_ | refine S2 ?_ | refine S3 ?_ | refine S4 ?_ | refine S5 ?_ | refine S6 ?_ | refine S7 ?_ | refine S8 ?_ | refine S9 ?_ | refine S10 ?_ | refine S11 ?_ | refine S13 ?_ | refine S15 ?_ | refine S16 ?_ | refine S19 ?_ | refine S20 ?_ | refine S21 ?_ | refine S22 ?_ | refine S23 ?_ | refine S25 ?_ | refine S26 ?_ | refine S28 ?_ | refine S29 ?_ | refine S35 ?_ | refine S51 ?_)
    exact ⟨.inr rfl, .cl rfl⟩
  | d + 1, R, C, hR, hC, hd, hi, hc => by
    have kc := columns_s h
    have hlen := h.len
    have hk6 := h.hk
    cases hb : bitsL R 6 with
    | nil => rw [hb] at hd; cases hd
    | cons r rs =>
      have hrm : r ∈ bitsL R 6 := by rw [hb]; simp
      obtain ⟨hr6, hrb⟩ := mem_bits.1 hrm
      have hrn := hi r hrm
      have hRne : R ≠ 0 := fun e => by subst e; simp at hrb
      have hlow := fun i (h : i < r) => bits_low hb h hr6
      have hrs : bitsL (R - 2 ^ r) 6 = rs := by
        have e0 : bitsL R r = [] := by
          unfold bitsL
          rw [List.filter_eq_nil_iff]
          intro i hi
          have := hlow i (List.mem_range.1 hi)
          simp [this]
        have := bits_take hr6 hrb (r := rs) (by rw [e0]; exact hb) hR hr6 (Nat.le_refl _)
        rw [e0] at this
        exact this
      have hrl : rs.length = d := by rw [hb] at hd; simpa using hd
      have hrow := h.row r hrn
      have hp := pow600_pos d
      obtain ⟨T, hT⟩ : ∃ T, T = lap (ent m) (r :: rs) (bitsL C k) := ⟨_, rfl⟩
      rw [← hT]
      refine SC.go {} tok mixed Try.func144 rfl rfl Try.ntmps144 rfl rfl (by kernel_rfl) ?_
      first | simp only [updS] | simp only [updL, Nat.reduceAdd]
      repeat (first | refine S0 ?_ | refine S1 ?_ | refine S2 ?_ | refine S3 ?_ | refine S4 ?_ | refine S5 ?_ | refine S6 ?_ | refine S7 ?_ | refine S8 ?_ | refine S9 ?_ | refine S10 ?_ | refine S11 ?_ | refine S13 ?_ | refine S15 ?_ | refine S16 ?_ | refine S19 ?_ | refine S20 ?_ | refine S21 ?_ | refine S22 ?_ | refine S23 ?_ | refine S25 ?_ | refine S26 ?_ | refine S28 ?_ | refine S29 ?_ | refine S35 ?_ | refine S51 ?_)
      refine CW.midB (fun _ : Unit => True) (fun _ => [(0, plls m), (1, pint R), (2, pint C), (7, pint r)]) (fun _ _ => True) ?_ ?_
      · refine CW.loopS (fun j : Nat => j ≤ r) (fun j => [(0, plls m), (1, pint R), (2, pint C), (7, pint j)]) (fun _ _ => True) (fun j => r - j) 0 ⟨Nat.zero_le _, SLx, trivial⟩ ?_
        rintro j t hp hj _
        first | simp only [updS] | simp only [updL, Nat.reduceAdd]
        repeat (first | refine S0 ?_ | refine S1 ?_ | refine S2 ?_ | refine S3 ?_ | refine S4 ?_ | refine S5 ?_ | refine S6 ?_ | refine S7 ?_ | refine S8 ?_ | refine S9 ?_ | refine S10 ?_ | refine S11 ?_ | refine S13 ?_ | refine S15 ?_ | refine S16 ?_ | refine S19 ?_ | refine S20 ?_ | refine S21 ?_ | refine S22 ?_ | refine S23 ?_ | refine S25 ?_ | refine S26 ?_ | refine S28 ?_ | refine S29 ?_ | refine S35 ?_ | refine S51 ?_)
        refine AW.binf EVx EVx (bin_shr R j (by omega) _ _ _) ?_
        repeat (first | refine S0 ?_ | refine S1 ?_ | refine S2 ?_ | refine S3 ?_ | refine S4 ?_ | refine S5 ?_ | refine S6 ?_ | refine S7 ?_ | refine S8 ?_ | refine S9 ?_ | refine S10 ?_ | refine S11 ?_ | refine S13 ?_ | refine S15 ?_ | refine S16 ?_ | refine S19 ?_ | refine S20 ?_ | refine S21 ?_ | refine S22 ?_ | refine S23 ?_ | refine S25 ?_ | refine S26 ?_ | refine S28 ?_ | refine S29 ?_ | refine S35 ?_ | refine S51 ?_)
        refine AW.binf EVx EVx (bin_and1 (R / 2 ^ j) (Nat.lt_of_le_of_lt (Nat.div_le_self _ _) hR) _ _ _) ?_
        by_cases hjr : j < r
        · have h0 := hlow j hjr
          repeat (first | refine S0 ?_ | refine S1 ?_ | refine S2 ?_ | refine S3 ?_ | refine S4 ?_ | refine S5 ?_ | refine S6 ?_ | refine S7 ?_ | refine S8 ?_ | refine S9 ?_ | refine S10 ?_ | refine S11 ?_ | refine S13 ?_ | refine S15 ?_ | refine S16 ?_ | refine S19 ?_ | refine S20 ?_ | refine S21 ?_ | refine S22 ?_ | refine S23 ?_ | refine S25 ?_ | refine S26 ?_ | refine S28 ?_ | refine S29 ?_ | refine S35 ?_ | refine S51 ?_)
          exact ⟨j + 1, by omega, SLx, trivial, by omega⟩
        · obtain rfl : j = r := by omega
          repeat (first | refine S0 ?_ | refine S1 ?_ | refine S2 ?_ | refine S3 ?_ | refine S4 ?_ | refine S5 ?_ | refine S6 ?_ | refine S7 ?_ | refine S8 ?_ | refine S9 ?_ | refine S10 ?_ | refine S11 ?_ | refine S13 ?_ | refine S15 ?_ | refine S16 ?_ | refine S19 ?_ | refine S20 ?_ | refine S21 ?_ | refine S22 ?_ | refine S23 ?_ | refine S25 ?_ | refine S26 ?_ | refine S28 ?_ | refine S29 ?_ | refine S35 ?_ | refine S51 ?_)
          exact ⟨(), trivial, SLx, trivial⟩
      rintro _ t hp0 _ _
      first | simp only [updS] | simp only [updL, Nat.reduceAdd]
      repeat (first | refine S0 ?_ | refine S1 ?_ | refine S2 ?_ | refine S3 ?_ | refine S4 ?_ | refine S5 ?_ | refine S6 ?_ | refine S7 ?_ | refine S8 ?_ | refine S9 ?_ | refine S10 ?_ | refine S11 ?_ | refine S13 ?_ | refine S15 ?_ | refine S16 ?_ | refine S19 ?_ | refine S20 ?_ | refine S21 ?_ | refine S22 ?_ | refine S23 ?_ | refine S25 ?_ | refine S26 ?_ | refine S28 ?_ | refine S29 ?_ | refine S35 ?_ | refine S51 ?_)
      refine Scall (args := [plls m]) kc ?_
      repeat (first | refine S0 ?_ | refine S1 ?_ | refine S2 ?_ | refine S3 ?_ | refine S4 ?_ | refine S5 ?_ | refine S6 ?_ | refine S7 ?_ | refine S8 ?_ | refine S9 ?_ | refine S10 ?_ | refine S11 ?_ | refine S13 ?_ | refine S15 ?_ | refine S16 ?_ | refine S19 ?_ | refine S20 ?_ | refine S21 ?_ | refine S22 ?_ | refine S23 ?_ | refine S25 ?_ | refine S26 ?_ | refine S28 ?_ | refine S29 ?_ | refine S35 ?_ | refine S51 ?_)
      have hd5 : d ≤ 5 := by have := bits_len R 6; omega
      have hp5 : pow600 d ≤ 77760000000000 := by
        rcases (show d = 0 ∨ d = 1 ∨ d = 2 ∨ d = 3 ∨ d = 4 ∨ d = 5 by omega) with rfl | rfl | rfl | rfl | rfl | rfl <;> decide
      obtain ⟨B, hB⟩ : ∃ B, B = 100 * pow600 d := ⟨_, rfl⟩
      refine CW.loopS (fun i : Nat × Int => i.1 ≤ k ∧ (-((i.1 : Int) * B) ≤ i.2 ∧ i.2 ≤ (i.1 : Int) * B) ∧ ∃ b, bitsL C k = bitsL C i.1 ++ b ∧ i.2 + alts (altF m r rs) (bitsL C i.1).length (bitsL C i.1) b = T)
        (fun i => [(0, plls m), (1, pint R), (2, pint C), (7, pint r), (8, pint i.2), (9, pint (sgn (bitsL C i.1).length)), (21, pint k), (22, pint i.1)]) (fun _ _ => True) (fun i => k - i.1) (0, 0)
        ⟨⟨Nat.zero_le _, by simp, bitsL C k, by simp [bitsL], by rw [hT, Int.zero_add]; rfl⟩, SLx, trivial⟩ ?_
      rintro ⟨c, out⟩ t hp ⟨hck, hob, b, hsp, hsum⟩ _
      simp only at hck hob hsp hsum
      first | simp only [updS] | simp only [updL, Nat.reduceAdd]
      by_cases hlt : c < k
      · have hcB : (c : Int) * B ≤ 5 * B := Int.mul_le_mul_of_nonneg_right (by omega) (by omega)
        have hcB1 : ((c + 1 : Nat) : Int) * B = c * B + B := by push_cast; rw [Int.add_mul]; omega
        have hsgb := sgn_bd (bitsL C c).length
        repeat (first | refine S0 ?_ | refine S1 ?_ | refine S2 ?_ | refine S3 ?_ | refine S4 ?_ | refine S5 ?_ | refine S6 ?_ | refine S7 ?_ | refine S8 ?_ | refine S9 ?_ | refine S10 ?_ | refine S11 ?_ | refine S13 ?_ | refine S15 ?_ | refine S16 ?_ | refine S19 ?_ | refine S20 ?_ | refine S21 ?_ | refine S22 ?_ | refine S23 ?_ | refine S25 ?_ | refine S26 ?_ | refine S28 ?_ | refine S29 ?_ | refine S35 ?_ | refine S51 ?_)
        refine AW.binf EVx EVx (bin_shr C c (by omega) _ _ _) ?_
        repeat (first | refine S0 ?_ | refine S1 ?_ | refine S2 ?_ | refine S3 ?_ | refine S4 ?_ | refine S5 ?_ | refine S6 ?_ | refine S7 ?_ | refine S8 ?_ | refine S9 ?_ | refine S10 ?_ | refine S11 ?_ | refine S13 ?_ | refine S15 ?_ | refine S16 ?_ | refine S19 ?_ | refine S20 ?_ | refine S21 ?_ | refine S22 ?_ | refine S23 ?_ | refine S25 ?_ | refine S26 ?_ | refine S28 ?_ | refine S29 ?_ | refine S35 ?_ | refine S51 ?_)
        refine AW.binf EVx EVx (bin_and1 (C / 2 ^ c) (Nat.lt_of_le_of_lt (Nat.div_le_self _ _) hC) _ _ _) ?_
        by_cases hbit : C / 2 ^ c % 2 = 1
        · obtain ⟨b', hb'⟩ := bits_split (b := C) hlt hbit
          obtain rfl : b = c :: b' := by rw [hsp] at hb'; exact List.append_cancel_left hb'
          simp only [alts] at hsum
          have hbs : bitsL C (c + 1) = bitsL C c ++ [c] := by rw [bits_succ, if_pos hbit]
          have hbl : (bitsL C (c + 1)).length = (bitsL C c).length + 1 := by rw [hbs]; simp
          have hsg : sgn (bitsL C (c + 1)).length = -sgn (bitsL C c).length := by rw [hbl, sgn_succ]
          have hcl : (bitsL C c ++ b').length = d := by
            rw [hsp] at hc
            simp at hc ⊢
            omega
          have ks := minor_s h d (R - 2 ^ r) (C - 2 ^ c) (bits_sub_lt hR) (bits_sub_lt hC) (by rw [hrs]; exact hrl) (fun i hi2 => hi i (by rw [hb]; rw [hrs] at hi2; simp [hi2])) (by rw [bits_take hlt hbit hb' hC (by omega) hk6]; exact hcl)
          rw [hrs, bits_take hlt hbit hb' hC (by omega) hk6] at ks
          have hSb := lap_bd h.bd rs (bitsL C c ++ b') (by omega)
          rw [hrl] at hSb
          have heb := h.bd r c
          have hF : altF m r rs c (bitsL C c ++ b') = (m.getD r []).getD c 0 * lap (ent m) rs (bitsL C c ++ b') := rfl
          rw [hF] at hsum
          unfold ent at heb
          obtain ⟨S, hS⟩ : ∃ S, S = lap (ent m) rs (bitsL C c ++ b') := ⟨_, rfl⟩
          rw [← hS] at ks hSb hsum
          obtain ⟨g, hg⟩ : ∃ g, g = sgn (bitsL C c).length := ⟨_, rfl⟩
          rw [← hg] at hsgb hsum hsg ⊢
          rw [← hbl, ← hbs] at hsum
          by_cases he : (m.getD r []).getD c 0 = 0
          · repeat (first | refine S0 ?_ | refine S1 ?_ | refine S2 ?_ | refine S3 ?_ | refine S4 ?_ | refine S5 ?_ | refine S6 ?_ | refine S7 ?_ | refine S8 ?_ | refine S9 ?_ | refine S10 ?_ | refine S11 ?_ | refine S13 ?_ | refine S15 ?_ | refine S16 ?_ | refine S19 ?_ | refine S20 ?_ | refine S21 ?_ | refine S22 ?_ | refine S23 ?_ | refine S25 ?_ | refine S26 ?_ | refine S28 ?_ | refine S29 ?_ | refine S35 ?_ | refine S51 ?_)
            refine ⟨(c + 1, out), ⟨by simp only; omega, by simp only; omega, b', by simp only; rw [hbs, hsp]; simp, ?_⟩, ?_, trivial, by simp only; omega⟩
            · rw [he] at hsum
              simp only
              omega
            · simp only [hsg]
              exact SLx
          · have b1 := mul_bd hsgb heb (by decide) (by decide)
            have b2 := mul_bd b1 hSb (by decide) (by omega)
            have b3 : g * (m.getD r []).getD c 0 * S = g * ((m.getD r []).getD c 0 * S) := Int.mul_assoc _ _ _
            have q1 : in64 (g * (m.getD r []).getD c 0) := by unfold in64; omega
            have q2 : in64 (g * (m.getD r []).getD c 0 * S) := by unfold in64; omega
            have q3 : in64 (out + g * (m.getD r []).getD c 0 * S) := by unfold in64; omega
            repeat (first | refine S0 ?_ | refine S1 ?_ | refine S2 ?_ | refine S3 ?_ | refine S4 ?_ | refine S5 ?_ | refine S6 ?_ | refine S7 ?_ | refine S8 ?_ | refine S9 ?_ | refine S10 ?_ | refine S11 ?_ | refine S13 ?_ | refine S15 ?_ | refine S16 ?_ | refine S19 ?_ | refine S20 ?_ | refine S21 ?_ | refine S22 ?_ | refine S23 ?_ | refine S25 ?_ | refine S26 ?_ | refine S28 ?_ | refine S29 ?_ | refine S35 ?_ | refine S51 ?_)
            refine AW.binf EVx EVx (bin_shl r (by omega) _ _ _) ?_
            repeat (first | refine S0 ?_ | refine S1 ?_ | refine S2 ?_ | refine S3 ?_ | refine S4 ?_ | refine S5 ?_ | refine S6 ?_ | refine S7 ?_ | refine S8 ?_ | refine S9 ?_ | refine S10 ?_ | refine S11 ?_ | refine S13 ?_ | refine S15 ?_ | refine S16 ?_ | refine S19 ?_ | refine S20 ?_ | refine S21 ?_ | refine S22 ?_ | refine S23 ?_ | refine S25 ?_ | refine S26 ?_ | refine S28 ?_ | refine S29 ?_ | refine S35 ?_ | refine S51 ?_)
            refine AW.binf EVx EVx (bin_andNot R r hR hr6 hrb _ _ _) ?_
            repeat (first | refine S0 ?_ | refine S1 ?_ | refine S2 ?_ | refine S3 ?_ | refine S4 ?_ | refine S5 ?_ | refine S6 ?_ | refine S7 ?_ | refine S8 ?_ | refine S9 ?_ | refine S10 ?_ | refine S11 ?_ | refine S13 ?_ | refine S15 ?_ | refine S16 ?_ | refine S19 ?_ | refine S20 ?_ | refine S21 ?_ | refine S22 ?_ | refine S23 ?_ | refine S25 ?_ | refine S26 ?_ | refine S28 ?_ | refine S29 ?_ | refine S35 ?_ | refine S51 ?_)
            refine AW.binf EVx EVx (bin_shl c (by omega) _ _ _) ?_
            repeat (first | refine S0 ?_ | refine S1 ?_ | refine S2 ?_ | refine S3 ?_ | refine S4 ?_ | refine S5 ?_ | refine S6 ?_ | refine S7 ?_ | refine S8 ?_ | refine S9 ?_ | refine S10 ?_ | refine S11 ?_ | refine S13 ?_ | refine S15 ?_ | refine S16 ?_ | refine S19 ?_ | refine S20 ?_ | refine S21 ?_ | refine S22 ?_ | refine S23 ?_ | refine S25 ?_ | refine S26 ?_ | refine S28 ?_ | refine S29 ?_ | refine S35 ?_ | refine S51 ?_)
            refine AW.binf EVx EVx (bin_andNot C c hC (by omega) hbit _ _ _) ?_
            repeat (first | refine S0 ?_ | refine S1 ?_ | refine S2 ?_ | refine S3 ?_ | refine S4 ?_ | refine S5 ?_ | refine S6 ?_ | refine S7 ?_ | refine S8 ?_ | refine S9 ?_ | refine S10 ?_ | refine S11 ?_ | refine S13 ?_ | refine S15 ?_ | refine S16 ?_ | refine S19 ?_ | refine S20 ?_ | refine S21 ?_ | refine S22 ?_ | refine S23 ?_ | refine S25 ?_ | refine S26 ?_ | refine S28 ?_ | refine S29 ?_ | refine S35 ?_ | refine S51 ?_)
            refine Scall (args := [plls m, pint ((R - 2 ^ r : Nat) : Int), pint ((C - 2 ^ c : Nat) : Int)]) ks ?_
            repeat (first | refine S0 ?_ | refine S1 ?_ | refine S2 ?_ | refine S3 ?_ | refine S4 ?_ | refine S5 ?_ | refine S6 ?_ | refine S7 ?_ | refine S8 ?_ | refine S9 ?_ | refine S10 ?_ | refine S11 ?_ | refine S13 ?_ | refine S15 ?_ | refine S16 ?_ | refine S19 ?_ | refine S20 ?_ | refine S21 ?_ | refine S22 ?_ | refine S23 ?_ | refine S25 ?_ | refine S26 ?_ | refine S28 ?_ | refine S29 ?_ | refine S35 ?_ | refine S51 ?_)
            refine ⟨(c + 1, out + g * (m.getD r []).getD c 0 * S), ⟨by simp only; omega, by simp only; omega, b', by simp only; rw [hbs, hsp]; simp, ?_⟩, ?_, trivial, by simp only; omega⟩
            · simp only
              omega
            · simp only [hsg]
              exact SLx
        · have hbs : bitsL C (c + 1) = bitsL C c := by rw [bits_succ, if_neg hbit, List.append_nil]
          repeat (first | refine S0 ?_ | refine S1 ?_ | refine S2 ?_ | refine S3 ?_ | refine S4 ?_ | refine S5 ?_ | refine S6 ?_ | refine S7 ?_ | refine S8 ?_ | refine S9 ?_ | refine S10 ?_ | refine S11 ?_ | refine S13 ?_ | refine S15 ?_ | refine S16 ?_ | refine S19 ?_ | refine S20 ?_ | refine S21 ?_ | refine S22 ?_ | refine S23 ?_ | refine S25 ?_ | refine S26 ?_ | refine S28 ?_ | refine S29 ?_ | refine S35 ?_ | refine S51 ?_)
          refine ⟨(c + 1, out), ⟨by simp only; omega, by simp only; omega, b, by simp only; rw [hbs]; exact hsp, by simp only; rw [hbs]; exact hsum⟩, ?_, trivial, by simp only; omega⟩
          simp only [hbs]
          exact SLx
      · obtain rfl : c = k := by omega
        obtain rfl : b = [] := by
          have : bitsL C c ++ [] = bitsL C c ++ b := by rw [List.append_nil]; exact hsp
          exact (List.append_cancel_left this).symm
        simp only [alts, Int.add_zero] at hsum
        repeat (first | refine S0 ?_ | refine S1 ?_ | refine S2 ?_ | refine S3 ?_ | refine S4 ?_ | refine S5 ?_ | refine S6 ?_ | refine S7 ?_ | refine S8 ?_ | refine S9 ?_ | refine S10 ?_ | refine S11 ?_ | refine S13 ?_ | refine S15 ?_ | refine S16 ?_ | refine S19 ?_ | refine S20 ?_ | refine S21 ?_ | refine S22 ?_ | refine S23 ?_ | refine S25 ?_ | refine S26 ?_ | refine S28 ?_ | refine S29 ?_ | refine S35 ?_ | refine S51 ?_)
        rw [hsum]
        exact ⟨.inr rfl, .cl rfl⟩
end Go.Proofs.Ytgjfpmjllpgadaa
