/- intmatrix.Solutions; the law MatrixSolutions holds for all matrices and moduli. No condition of its own. -/
import Derived.Test.YtgjfpmjllpgadaaGColorCountsBQ
import Derived.Test.YtgjfpmjllpgadaaGColorCountsBU
set_option linter.unusedVariables false
set_option linter.unusedSimpArgs false
namespace Go.Proofs.Ytgjfpmjllpgadaa
open Go.RowKit

theorem dv_dvM {m : List (List Int)} {n k : Nat} {D : Nat → Nat} (h : Dv m n k D) (q g : Nat) : g ∣ D q ↔ DvM (ent m) n k q g := by
  rw [h q g]
  exact ⟨fun hh rs cs a1 a2 a3 b1 b2 b3 => hh rs cs ⟨a1, a2, a3⟩ ⟨b1, b2, b3⟩, fun hh rs cs h1 h2 => hh rs cs h1.1 h1.2.1 h1.2.2 h2.1 h2.2.1 h2.2.2⟩
/-- what the program multiplies -/
def gprd (q : Nat) : List Int → Nat
  | [] => 1
  | f :: l => Int.gcd f q * gprd q l
theorem gprd_snoc (q : Nat) (f : Int) : ∀ l, gprd q (l ++ [f]) = gprd q l * Int.gcd f q
  | [] => by simp [gprd]
  | x :: l => by
    show Int.gcd x q * gprd q (l ++ [f]) = Int.gcd x q * gprd q l * Int.gcd f q
    rw [gprd_snoc q f l, Nat.mul_assoc]
def p13 : Nat → Nat
  | 0 => 1
  | i + 1 => p13 i * 13
theorem p13_6 {i : Nat} (h : i ≤ 6) : p13 i ≤ 5000000 := by
  match i, h with
  | 0, _ => decide
  | 1, _ => decide
  | 2, _ => decide
  | 3, _ => decide
  | 4, _ => decide
  | 5, _ => decide
  | 6, _ => decide
theorem p13_eq : ∀ i, p13 i = 13 ^ i
  | 0 => rfl
  | i + 1 => by rw [Nat.pow_succ, ← p13_eq i]; rfl
theorem gcd_le13 {f : Int} {q : Nat} (hq : 1 ≤ q ∧ q ≤ 13) : Int.gcd f q ≤ 13 := by
  have : Int.gcd f q ≤ q := Nat.gcd_le_right _ (by have := hq.1; omega)
  omega
theorem gprd_le {q : Nat} (hq : 1 ≤ q ∧ q ≤ 13) : ∀ l : List Int, gprd q l ≤ p13 l.length
  | [] => by simp [gprd, p13]
  | x :: l => by
    show Int.gcd x q * gprd q l ≤ p13 l.length * 13
    rw [Nat.mul_comm (p13 _)]
    exact Nat.mul_le_mul (gcd_le13 hq) (gprd_le hq l)
theorem prdN_split (f : Nat → Nat) : ∀ (a i b : Nat), prdN f i (a + b) = prdN f i a * prdN f (i + a) b
  | 0, i, b => by simp [prdN]
  | a + 1, i, b => by
    rw [show a + 1 + b = (a + b) + 1 by omega]
    show f i * prdN f (i + 1) (a + b) = f i * prdN f (i + 1) a * prdN f (i + (a + 1)) b
    rw [prdN_split f a (i + 1) b, Nat.mul_assoc, show i + 1 + a = i + (a + 1) by omega]
theorem prdN_const (q : Nat) : ∀ k i, prdN (fun _ => q) i k = q ^ k
  | 0, _ => rfl
  | k + 1, i => by
    show q * prdN _ (i + 1) k = _
    rw [prdN_const q k, Nat.pow_succ, Nat.mul_comm]
theorem gprd_prdN (q : Nat) (D : Nat → Nat) : ∀ n i, prdN (fun i => Nat.gcd (facN D i) q) i n = gprd q ((List.range' i n).map fun i => if D (i + 1) = 0 then 0 else ((D (i + 1) / D i : Nat) : Int))
  | 0, _ => rfl
  | n + 1, i => by
    show Nat.gcd (facN D i) q * prdN _ (i + 1) n = _
    rw [gprd_prdN q D n (i + 1)]
    show _ = Int.gcd (if D (i + 1) = 0 then 0 else ((D (i + 1) / D i : Nat) : Int)) q * _
    congr 1
    unfold facN
    split
    · rfl
    · show _ = Nat.gcd (((D (i + 1) / D i : Nat) : Int)).natAbs ((q : Int)).natAbs
      rw [Int.natAbs_natCast, Int.natAbs_natCast]
/-- THE NUMBER OF SOLUTIONS -/
theorem sols_cnt {m : List (List Int)} {n k q : Nat} {D : Nat → Nat} (hD : Dv m n k D) (hq : 1 ≤ q) : cntS (ent m) n k q = gprd q (facs D (min n k)) * q ^ (k - min n k) := by
  rw [cnt_sol hq (dv_dvM hD)]
  have e : k = min n k + (k - min n k) := by omega
  conv => lhs; rw [e]
  rw [prdN_split]
  congr 1
  · rw [show facs D (min n k) = (List.range' 0 (min n k)).map (fun i => if D (i + 1) = 0 then 0 else ((D (i + 1) / D i : Nat) : Int)) by unfold facs; rw [List.range_eq_range'], ← gprd_prdN]
    refine prdN_congr _ 0 (fun j _ hj => ?_)
    rw [if_pos (by omega)]
  · rw [← prdN_const q (k - min n k) (0 + min n k)]
    refine prdN_congr _ _ (fun j hj _ => ?_)
    rw [if_neg (by omega)]
theorem D_bd2 {m : List (List Int)} {n k : Nat} (hM : Mx m n k) {D : Nat → Nat} (hD : Dv m n k D) {q : Nat} (hq : q ≤ 6) : D q ≤ 50000000000000000 := by
  rcases Nat.eq_zero_or_pos (D q) with h | h
  · omega
  · have hex : ∃ rs cs, Sub n q rs ∧ Sub k q cs ∧ lap (ent m) rs cs ≠ 0 := Classical.byContradiction fun hn => by
      have : 0 ∣ D q := (hD q 0).2 (fun rs cs h1 h2 => by
        have : lap (ent m) rs cs = 0 := Classical.byContradiction fun h3 => hn ⟨rs, cs, h1, h2, h3⟩
        rw [this]; exact Int.dvd_refl 0)
      have := Nat.eq_zero_of_zero_dvd this
      omega
    obtain ⟨rs, cs, h1, h2, h3⟩ := hex
    have hd := (hD q (D q)).1 (Nat.dvd_refl _) rs cs h1 h2
    have hb := lap_bd hM.bd rs cs (by have := h1.2.2; have := h2.2.2; omega)
    have h6 := pow600_6 (show rs.length ≤ 6 by have := h1.2.2; omega)
    have h5 : D q ≤ (lap (ent m) rs cs).natAbs := Nat.le_of_dvd (by omega) (Int.ofNat_dvd_left.1 hd)
    omega
set_option maxHeartbeats 16000000 in
set_option maxRecDepth 100000 in
theorem solsE_s {m : List (List Int)} {n k q : Nat} (hM : Mx m n k) (h0 : mF m = 0) {D : Nat → Nat} (hD : Dv m n k D) (hq : 1 ≤ q ∧ q ≤ 13) : SC Try.prog 84 [plls m, pint q] (.tup [pint (gprd q (facs D (min n k)) * q ^ (k - min n k) : Nat), pint 0]) := by
  have kc := mcheck_s m
  rw [h0] at kc
  have hfl := facs_len D (min n k)
  have ks := (smith_o hM hD).sc (by simp [facs])
  rw [show PV.lst false 1 (min n k) (ints (facs D (min n k))) = pli (facs D (min n k)) by unfold pli; rw [hfl]] at ks
  have hn6 := hM.hn
  have hk6 := hM.hk
  have kk := columns_s hM
  have hbd : ∀ x ∈ facs D (min n k), 0 ≤ x ∧ x ≤ 50000000000000000 := fun x hx => by
    unfold facs at hx
    obtain ⟨i, hi, rfl⟩ := List.mem_map.1 hx
    have := List.mem_range.1 hi
    have := D_bd2 hM hD (q := i + 1) (by omega)
    have h3 := Nat.div_le_self (D (i + 1)) (D i)
    generalize D (i + 1) / D i = z at *
    split <;> omega
  generalize facs D (min n k) = xs at *
  obtain ⟨d, hd⟩ : ∃ d, d = k - min n k := ⟨_, rfl⟩
  rw [← hd]
  have hxd : xs.length + d = k := by omega
  have hx6 : xs.length ≤ 6 := by omega
  refine SC.go {} tok mixed Try.func84 rfl rfl Try.ntmps84 rfl rfl (by kernel_rfl) ?_
  first | simp only [updS] | simp only [updL, Nat.reduceAdd]
  repeat (first | refine S0 ?_ | refine S1 ?_ | refine S2 ?_ | refine S4 ?_ | refine S5 ?_ | refine S6 ?_ | refine S7 ?_ | refine S8 ?_ | refine S9 ?_ | refine S10 ?_ | refine S11 ?_ | refine S13 ?_ | refine S15 ?_ | refine S16 ?_ | refine S19 ?_ | refine S20 ?_ | refine S21 ?_ | refine S22 ?_ | refine S23 ?_ | refine S25 ?_ | refine S26 ?_ | refine S29 ?_ | refine S30 ?_ | refine S33 ?_ | refine S37 ?_ | refine S38 ?_ | refine S40 ?_ | refine S41 ?_ | refine S51 ?_)
  refine Scall (args := [plls m]) kc ?_
  repeat (first | refine S0 ?_ | refine S1 ?_ | refine S2 ?_ | refine S4 ?_ | refine S5 ?_ | refine S6 ?_ | refine S7 ?_ | refine S8 ?_ | refine S9 ?_ | refine S10 ?_ | refine S11 ?_ | refine S13 ?_ | refine S15 ?_ | refine S16 ?_ | refine S19 ?_ | refine S20 ?_ | refine S21 ?_ | refine S22 ?_ | refine S23 ?_ | refine S25 ?_ | refine S26 ?_ | refine S29 ?_ | refine S30 ?_ | refine S33 ?_ | refine S37 ?_ | refine S38 ?_ | refine S40 ?_ | refine S41 ?_ | refine S51 ?_)
  refine Scall (args := [plls m]) ks ?_
  repeat (first | refine S0 ?_ | refine S1 ?_ | refine S2 ?_ | refine S4 ?_ | refine S5 ?_ | refine S6 ?_ | refine S7 ?_ | refine S8 ?_ | refine S9 ?_ | refine S10 ?_ | refine S11 ?_ | refine S13 ?_ | refine S15 ?_ | refine S16 ?_ | refine S19 ?_ | refine S20 ?_ | refine S21 ?_ | refine S22 ?_ | refine S23 ?_ | refine S25 ?_ | refine S26 ?_ | refine S29 ?_ | refine S30 ?_ | refine S33 ?_ | refine S37 ?_ | refine S38 ?_ | refine S40 ?_ | refine S41 ?_ | refine S51 ?_)
  refine CW.loopS (fun i : Nat => i ≤ xs.length) (fun i => [(0, plls m), (1, pint q), (7, pli xs), (8, pint (gprd q (xs.take i) : Nat)), (24, pli xs), (25, pint xs.length), (26, pint i)]) (fun _ _ => True) (fun i => xs.length - i) 0 ⟨Nat.zero_le _, SLx, trivial⟩ ?_
  rintro i t hp hi _
  first | simp only [updS] | simp only [updL, Nat.reduceAdd]
  by_cases hi2 : i < xs.length
  · have e : xs.take (i + 1) = xs.take i ++ [xs.getD i 0] := by
      rw [List.take_add_one, List.getElem?_eq_getElem hi2]
      simp [List.getD, hi2]
    have hs : gprd q (xs.take (i + 1)) = gprd q (xs.take i) * Int.gcd (xs.getD i 0) q := by rw [e, gprd_snoc]
    have hx := hbd (xs.getD i 0) (by rw [show xs.getD i 0 = xs[i] by simp [List.getD, hi2]]; exact List.getElem_mem hi2)
    have kg := mgcd_s (xs.getD i 0) q (by omega) (by omega)
    have hb := gprd_le hq (xs.take (i + 1))
    have h13 := p13_6 (i := (xs.take (i + 1)).length) (by simp; omega)
    have hms : ((gprd q (xs.take i) : Nat) : Int) * ((Int.gcd (xs.getD i 0) q : Nat) : Int) = ((gprd q (xs.take (i + 1)) : Nat) : Int) := by rw [hs]; push_cast; rfl
    have hin : -1000000000 ≤ ((gprd q (xs.take i) : Nat) : Int) * ((Int.gcd (xs.getD i 0) q : Nat) : Int) ∧ ((gprd q (xs.take i) : Nat) : Int) * ((Int.gcd (xs.getD i 0) q : Nat) : Int) ≤ 1000000000 := by rw [hms]; omega
    repeat (first | refine S0 ?_ | refine S1 ?_ | refine S2 ?_ | refine S4 ?_ | refine S5 ?_ | refine S6 ?_ | refine S7 ?_ | refine S8 ?_ | refine S9 ?_ | refine S10 ?_ | refine S11 ?_ | refine S13 ?_ | refine S15 ?_ | refine S16 ?_ | refine S19 ?_ | refine S20 ?_ | refine S21 ?_ | refine S22 ?_ | refine S23 ?_ | refine S25 ?_ | refine S26 ?_ | refine S29 ?_ | refine S30 ?_ | refine S33 ?_ | refine S37 ?_ | refine S38 ?_ | refine S40 ?_ | refine S41 ?_ | refine S51 ?_)
    refine Scall (args := [pint (xs.getD i 0), pint q]) kg ?_
    repeat (first | refine S0 ?_ | refine S1 ?_ | refine S2 ?_ | refine S4 ?_ | refine S5 ?_ | refine S6 ?_ | refine S7 ?_ | refine S8 ?_ | refine S9 ?_ | refine S10 ?_ | refine S11 ?_ | refine S13 ?_ | refine S15 ?_ | refine S16 ?_ | refine S19 ?_ | refine S20 ?_ | refine S21 ?_ | refine S22 ?_ | refine S23 ?_ | refine S25 ?_ | refine S26 ?_ | refine S29 ?_ | refine S30 ?_ | refine S33 ?_ | refine S37 ?_ | refine S38 ?_ | refine S40 ?_ | refine S41 ?_ | refine S51 ?_)
    rw [hms]
    exact ⟨i + 1, hi2, SLx, trivial, by omega⟩
  · obtain rfl : i = xs.length := by omega
    rw [List.take_length]
    repeat (first | refine S0 ?_ | refine S1 ?_ | refine S2 ?_ | refine S4 ?_ | refine S5 ?_ | refine S6 ?_ | refine S7 ?_ | refine S8 ?_ | refine S9 ?_ | refine S10 ?_ | refine S11 ?_ | refine S13 ?_ | refine S15 ?_ | refine S16 ?_ | refine S19 ?_ | refine S20 ?_ | refine S21 ?_ | refine S22 ?_ | refine S23 ?_ | refine S25 ?_ | refine S26 ?_ | refine S29 ?_ | refine S30 ?_ | refine S33 ?_ | refine S37 ?_ | refine S38 ?_ | refine S40 ?_ | refine S41 ?_ | refine S51 ?_)
    refine Scall (args := [plls m]) kk ?_
    repeat (first | refine S0 ?_ | refine S1 ?_ | refine S2 ?_ | refine S4 ?_ | refine S5 ?_ | refine S6 ?_ | refine S7 ?_ | refine S8 ?_ | refine S9 ?_ | refine S10 ?_ | refine S11 ?_ | refine S13 ?_ | refine S15 ?_ | refine S16 ?_ | refine S19 ?_ | refine S20 ?_ | refine S21 ?_ | refine S22 ?_ | refine S23 ?_ | refine S25 ?_ | refine S26 ?_ | refine S29 ?_ | refine S30 ?_ | refine S33 ?_ | refine S37 ?_ | refine S38 ?_ | refine S40 ?_ | refine S41 ?_ | refine S51 ?_)
    rw [show (k : Int) - (xs.length : Int) = (d : Int) by omega]
    have hb0 := gprd_le hq xs
    have hpw : ∀ j, j ≤ d → gprd q xs * q ^ j ≤ 5000000 := fun j hj => by
      refine Nat.le_trans (Nat.mul_le_mul hb0 (Nat.pow_le_pow_left hq.2 j)) ?_
      rw [p13_eq, ← Nat.pow_add, ← p13_eq]
      exact p13_6 (by omega)
    refine CW.loopS (fun i : Nat => i ≤ d) (fun i => [(1, pint q), (8, pint (gprd q xs * q ^ i : Nat)), (40, pint d), (41, pint i)]) (fun _ _ => True) (fun i => d - i) 0 ⟨Nat.zero_le _, by rw [Nat.pow_zero, Nat.mul_one]; exact SLx, trivial⟩ ?_
    clear hp t
    rintro i t hp hi _
    first | simp only [updS] | simp only [updL, Nat.reduceAdd]
    by_cases hi2 : i < d
    · have h1 := hpw (i + 1) hi2
      have hms : ((gprd q xs * q ^ i : Nat) : Int) * (q : Int) = ((gprd q xs * q ^ (i + 1) : Nat) : Int) := by rw [Nat.pow_succ, ← Nat.mul_assoc, Int.natCast_mul (gprd q xs * q ^ i)]
      have hin : -1000000000 ≤ ((gprd q xs * q ^ i : Nat) : Int) * (q : Int) ∧ ((gprd q xs * q ^ i : Nat) : Int) * (q : Int) ≤ 1000000000 := by rw [hms]; omega
      repeat (first | refine S0 ?_ | refine S1 ?_ | refine S2 ?_ | refine S4 ?_ | refine S5 ?_ | refine S6 ?_ | refine S7 ?_ | refine S8 ?_ | refine S9 ?_ | refine S10 ?_ | refine S11 ?_ | refine S13 ?_ | refine S15 ?_ | refine S16 ?_ | refine S19 ?_ | refine S20 ?_ | refine S21 ?_ | refine S22 ?_ | refine S23 ?_ | refine S25 ?_ | refine S26 ?_ | refine S29 ?_ | refine S30 ?_ | refine S33 ?_ | refine S37 ?_ | refine S38 ?_ | refine S40 ?_ | refine S41 ?_ | refine S51 ?_)
      rw [hms]
      exact ⟨i + 1, hi2, SLx, trivial, by omega⟩
    · obtain rfl : i = d := by omega
      repeat (first | refine S0 ?_ | refine S1 ?_ | refine S2 ?_ | refine S4 ?_ | refine S5 ?_ | refine S6 ?_ | refine S7 ?_ | refine S8 ?_ | refine S9 ?_ | refine S10 ?_ | refine S11 ?_ | refine S13 ?_ | refine S15 ?_ | refine S16 ?_ | refine S19 ?_ | refine S20 ?_ | refine S21 ?_ | refine S22 ?_ | refine S23 ?_ | refine S25 ?_ | refine S26 ?_ | refine S29 ?_ | refine S30 ?_ | refine S33 ?_ | refine S37 ?_ | refine S38 ?_ | refine S40 ?_ | refine S41 ?_ | refine S51 ?_)
      exact ⟨.inr rfl, .cl rfl⟩
end Go.Proofs.Ytgjfpmjllpgadaa
