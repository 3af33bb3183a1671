/- laurent.Div. No condition of its own. -/
import Derived.Test.YtehilackpaejnaaPolyD
import Derived.Test.YtehilackpaejnaaPolyF
set_option linter.unusedVariables false
namespace Go.Proofs.Ytehilackpaejnaa
open Go.RowKit

/-- the division: how many steps; the exponent of a step; what is left and the quotient behind m steps -/
def dN (a b : Po) : Nat := a.2.length + 1 - b.2.length
def dE (a b : Po) (m : Nat) : Int := a.1 - b.1 + ((dN a b : Int) - 1 - m)
def dL (b : Po) : Int := b.2.getD (b.2.length - 1) 0
def dst (a b : Po) : Nat → (Int → Int) × (Int → Int)
  | 0 => (co a, fun _ => 0)
  | m + 1 => (fun x => (dst a b m).1 x - (dst a b m).1 (dE a b m + b.1 + b.2.length - 1) * dL b * co b (x - dE a b m), fun x => if x = dE a b m then (dst a b m).1 (dE a b m + b.1 + b.2.length - 1) * dL b else (dst a b m).2 x)
def dq (a b : Po) (m : Nat) : Int := (dst a b m).1 (dE a b m + b.1 + b.2.length - 1) * dL b
theorem dst_R (a b : Po) (m : Nat) (x : Int) : (dst a b (m + 1)).1 x = (dst a b m).1 x - dq a b m * co b (x - dE a b m) := rfl
theorem dst_Q (a b : Po) (m : Nat) (x : Int) : (dst a b (m + 1)).2 x = if x = dE a b m then dq a b m else (dst a b m).2 x := rfl
theorem dst_bd {a b : Po} (ha : ∀ x ∈ a.2, okc x) (hb : ∀ x ∈ b.2, okc x) : ∀ (m : Nat), (∀ j, j < m → okc (dq a b j)) → ∀ x, -(100000000 + (m : Int) * 10000000000000000) ≤ (dst a b m).1 x ∧ (dst a b m).1 x ≤ 100000000 + (m : Int) * 10000000000000000
  | 0, _, x => by
    have := co_bd (p := a) (B := 100000000) (by omega) ha x
    simp only [dst]; omega
  | m + 1, h, x => by
    have h1 := dst_bd ha hb m (fun j hj => h j (by omega)) x
    have h2 := mul_bd (h m (by omega)) (co_bd (p := b) (B := 100000000) (by omega) hb (x - dE a b m))
    rw [dst_R, Int.natCast_add, Int.add_mul]
    simp only [Int.natCast_one, Int.one_mul]
    omega
theorem dst_supp {a b : Po} (hb : 0 < b.2.length) : ∀ (m : Nat), m ≤ dN a b → ∀ x, (dst a b m).1 x ≠ 0 → a.1 ≤ x ∧ x < a.1 + a.2.length
  | 0, _, x, h => co_in h
  | m + 1, hm, x, h => by
    by_cases h1 : (dst a b m).1 x = 0
    · rw [dst_R, h1] at h
      have h2 : co b (x - dE a b m) ≠ 0 := fun e => h (by rw [e]; simp)
      have := co_in h2
      unfold dE dN at *
      omega
    · exact dst_supp hb m (by omega) x h1
theorem dst_Qsupp {a b : Po} : ∀ (m : Nat), m ≤ dN a b → ∀ x, (dst a b m).2 x ≠ 0 → a.1 - b.1 ≤ x ∧ x < a.1 - b.1 + dN a b
  | 0, _, x, h => absurd rfl h
  | m + 1, hm, x, h => by
    rw [dst_Q] at h
    split at h
    · rename_i e; subst e
      unfold dE; omega
    · exact dst_Qsupp m (by omega) x h
theorem acc_sub {low : Int} {n : Nat} {G G' : Int → Int} {zs : List Int} (hzs : zs = tab n (fun j => G (low + j))) {q : Nat} {e v : Int} (hq : (q : Int) = e - low) (h2 : e < low + n) (hG : ∀ x, G' x = G x - if x = e then v else 0) : zs.set q (zs.getD q 0 - v) = tab n (fun j => G' (low + j)) := by
  rw [Int.sub_eq_add_neg]
  refine acc_set hzs hq h2 (fun x => ?_)
  rw [hG]
  split <;> omega
theorem acc_put {low : Int} {n : Nat} {G G' : Int → Int} {zs : List Int} (hzs : zs = tab n (fun j => G (low + j))) {q : Nat} {e v : Int} (hq : (q : Int) = e - low) (h2 : e < low + n) (hG : ∀ x, G' x = if x = e then v else G x) : zs.set q v = tab n (fun j => G' (low + j)) := by
  subst hzs
  rw [tab_set]
  refine tab_congr (fun i hi => ?_)
  rw [hG]
  by_cases c : i = q
  · subst c
    rw [if_pos rfl, if_pos (by omega)]
  · rw [if_neg c, if_neg (by omega)]
/-- what the division returns for good polynomials -/
noncomputable def dvR (a b : Po) : Po × Int := if b.2.length = 0 then ((0, []), 6) else if dL b ≠ 1 ∧ dL b ≠ -1 then ((0, []), 3) else
  @ite _ (∃ j, j < dN a b ∧ ¬ okc (dq a b j)) (Classical.propDecidable _) ((0, []), 2) (@ite _ (∃ x, (dst a b (dN a b)).1 x ≠ 0) (Classical.propDecidable _) ((0, []), 7)
    (if pF (cano (dst a b (dN a b)).2) = 0 then cano (dst a b (dN a b)).2 else (0, []), if pF (cano (dst a b (dN a b)).2) = 0 then 0 else 2))
theorem dvR_6 {a b : Po} (h : b.2.length = 0) : dvR a b = ((0, []), 6) := if_pos h
theorem dvR_3 {a b : Po} (h : b.2.length ≠ 0) (h2 : dL b ≠ 1 ∧ dL b ≠ -1) : dvR a b = ((0, []), 3) := by unfold dvR; rw [if_neg h, if_pos h2]
theorem dvR_2 {a b : Po} (h : b.2.length ≠ 0) (h2 : ¬ (dL b ≠ 1 ∧ dL b ≠ -1)) {j : Nat} (hj : j < dN a b) (hb : ¬ okc (dq a b j)) : dvR a b = ((0, []), 2) := by unfold dvR; rw [if_neg h, if_neg h2, if_pos ⟨j, hj, hb⟩]
theorem dvR_7 {a b : Po} (h : b.2.length ≠ 0) (h2 : ¬ (dL b ≠ 1 ∧ dL b ≠ -1)) (h3 : ∀ j, j < dN a b → okc (dq a b j)) {x : Int} (hx : (dst a b (dN a b)).1 x ≠ 0) : dvR a b = ((0, []), 7) := by
  unfold dvR; rw [if_neg h, if_neg h2, if_neg (fun ⟨j, g1, g2⟩ => g2 (h3 j g1)), if_pos ⟨x, hx⟩]
theorem dvR_0 {a b : Po} (h : b.2.length ≠ 0) (h2 : ¬ (dL b ≠ 1 ∧ dL b ≠ -1)) (h3 : ∀ j, j < dN a b → okc (dq a b j)) (hx : ∀ x, (dst a b (dN a b)).1 x = 0) : dvR a b = (if pF (cano (dst a b (dN a b)).2) = 0 then cano (dst a b (dN a b)).2 else (0, []), if pF (cano (dst a b (dN a b)).2) = 0 then 0 else 2) := by
  unfold dvR; rw [if_neg h, if_neg h2, if_neg (fun ⟨j, g1, g2⟩ => g2 (h3 j g1)), if_neg (fun ⟨x, g⟩ => g (hx x))]
set_option maxHeartbeats 2000000 in
set_option maxRecDepth 100000 in
theorem clone_o (xs : List Int) (hl : xs.length ≤ 1000000) : SCo Try.prog 43 [pli xs] 1 xs.length (ints xs) := by
  refine SCo.go {} tok mixed Try.func43 rfl rfl Try.ntmps43 rfl rfl (by kernel_rfl) ?_
  first | simp only [updS] | simp only [updL, Nat.reduceAdd]
  by_cases h0 : xs.length = 0
  · obtain rfl : xs = [] := List.length_eq_zero_iff.1 h0
    repeat (first | refine S0 ?_ | refine S1 ?_ | refine S2 ?_ | refine S3 ?_ | refine S4 ?_ | refine S5 ?_ | refine S6 ?_ | refine S7 ?_ | refine S8 ?_ | refine S9 ?_ | refine S10 ?_ | refine S11 ?_ | refine S12 ?_ | refine S13 ?_ | refine S14 ?_ | refine S15 ?_ | refine S16 ?_ | refine S17 ?_ ?_ | refine S18 ?_ | refine S19 ?_ | refine S20 ?_ | refine S21 ?_ | refine S22 ?_ | refine S23 ?_ | refine S24 ?_ | refine S25 ?_ | refine S26 ?_ | refine S27 ?_ | refine S28 ?_ | refine S29 ?_ | refine S30 ?_ | refine S31 ?_ | refine S32 ?_ | refine S33 ?_ | refine S34 ?_ | refine S35 ?_ | refine S36 ?_ | refine S37 ?_ | refine S38 ?_ | refine S39 ?_ | refine S40 ?_ | refine S41 ?_ | refine S42 ?_ | refine S43 ?_ | refine S44 ?_ | refine S45 ?_ | refine S46 ?_ | refine S47 ?_ | refine S48 ?_ | refine S49 ?_ | refine S50 ?_ | refine S51 ?_ | refine S52 ?_ | refine S53 ?_ | refine S54 ?_ | refine S55 ?_ | refine S56 ?_ | refine S57 ?_ | refine S58 ?_ | refine S59 ?_ | refine S60 ?_ | refine S61 ?_ | refine S62 ?_ | refine S63 ?_ | refine S64 ?_ | refine S65 ?_ | refine S66 ?_ | refine S67 ?_ | refine S68 ?_ | refine S69 ?_ | refine S70 ?_ | refine S71 ?_ | refine S72 ?_ | refine S73 ?_ | refine S74 ?_ | refine S75 ?_ | refine S76 ?_ | refine S77 ?_ | refine S78 ?_ | refine S79 ?_ | refine S80 ?_ | refine S81 ?_ | refine S82 ?_ | refine S83 ?_ | refine S84 ?_ | refine S85 ?_)
    · exact ⟨.inr rfl, Ow.nil⟩
    · repeat (first | refine S0 ?_ | refine S1 ?_ | refine S2 ?_ | refine S3 ?_ | refine S4 ?_ | refine S5 ?_ | refine S6 ?_ | refine S7 ?_ | refine S8 ?_ | refine S9 ?_ | refine S10 ?_ | refine S11 ?_ | refine S12 ?_ | refine S13 ?_ | refine S14 ?_ | refine S15 ?_ | refine S16 ?_ | refine S17 ?_ ?_ | refine S18 ?_ | refine S19 ?_ | refine S20 ?_ | refine S21 ?_ | refine S22 ?_ | refine S23 ?_ | refine S24 ?_ | refine S25 ?_ | refine S26 ?_ | refine S27 ?_ | refine S28 ?_ | refine S29 ?_ | refine S30 ?_ | refine S31 ?_ | refine S32 ?_ | refine S33 ?_ | refine S34 ?_ | refine S35 ?_ | refine S36 ?_ | refine S37 ?_ | refine S38 ?_ | refine S39 ?_ | refine S40 ?_ | refine S41 ?_ | refine S42 ?_ | refine S43 ?_ | refine S44 ?_ | refine S45 ?_ | refine S46 ?_ | refine S47 ?_ | refine S48 ?_ | refine S49 ?_ | refine S50 ?_ | refine S51 ?_ | refine S52 ?_ | refine S53 ?_ | refine S54 ?_ | refine S55 ?_ | refine S56 ?_ | refine S57 ?_ | refine S58 ?_ | refine S59 ?_ | refine S60 ?_ | refine S61 ?_ | refine S62 ?_ | refine S63 ?_ | refine S64 ?_ | refine S65 ?_ | refine S66 ?_ | refine S67 ?_ | refine S68 ?_ | refine S69 ?_ | refine S70 ?_ | refine S71 ?_ | refine S72 ?_ | refine S73 ?_ | refine S74 ?_ | refine S75 ?_ | refine S76 ?_ | refine S77 ?_ | refine S78 ?_ | refine S79 ?_ | refine S80 ?_ | refine S81 ?_ | refine S82 ?_ | refine S83 ?_ | refine S84 ?_ | refine S85 ?_)
      refine AW.ap0 (by first | exact Or.inl rfl | exact Or.inr ⟨rfl, HP.tok_even _⟩ | exact Or.inr (Or.inl rfl) | exact Or.inr (Or.inr (Or.inl rfl)) | exact Or.inr (Or.inr (Or.inr ⟨rfl, HP.tok_odd _⟩)) | exact Or.inr ⟨rfl, by assumption⟩ | exact Or.inr (Or.inr (Or.inr ⟨rfl, by assumption⟩)) | exact Or.inr (Or.inr rfl) | exact Or.inr rfl) (by simp only [evA, upd, putA, ofConst, ofConst.ofCell, Nat.reduceEqDiff, ↓reduceIte, List.map_cons, List.map_nil, List.toList_toArray]; first | done | rfl) rfl (by first | exact ⟨rfl, rfl, .inr rfl⟩ | exact ⟨rfl, rfl, .inl rfl⟩ | (simp only [evA, upd, putA, Nat.reduceEqDiff, ↓reduceIte]; first | exact ⟨rfl, rfl, .inr rfl⟩ | exact ⟨rfl, rfl, .inl rfl⟩)) ?_
      repeat (first | refine S0 ?_ | refine S1 ?_ | refine S2 ?_ | refine S3 ?_ | refine S4 ?_ | refine S5 ?_ | refine S6 ?_ | refine S7 ?_ | refine S8 ?_ | refine S9 ?_ | refine S10 ?_ | refine S11 ?_ | refine S12 ?_ | refine S13 ?_ | refine S14 ?_ | refine S15 ?_ | refine S16 ?_ | refine S17 ?_ ?_ | refine S18 ?_ | refine S19 ?_ | refine S20 ?_ | refine S21 ?_ | refine S22 ?_ | refine S23 ?_ | refine S24 ?_ | refine S25 ?_ | refine S26 ?_ | refine S27 ?_ | refine S28 ?_ | refine S29 ?_ | refine S30 ?_ | refine S31 ?_ | refine S32 ?_ | refine S33 ?_ | refine S34 ?_ | refine S35 ?_ | refine S36 ?_ | refine S37 ?_ | refine S38 ?_ | refine S39 ?_ | refine S40 ?_ | refine S41 ?_ | refine S42 ?_ | refine S43 ?_ | refine S44 ?_ | refine S45 ?_ | refine S46 ?_ | refine S47 ?_ | refine S48 ?_ | refine S49 ?_ | refine S50 ?_ | refine S51 ?_ | refine S52 ?_ | refine S53 ?_ | refine S54 ?_ | refine S55 ?_ | refine S56 ?_ | refine S57 ?_ | refine S58 ?_ | refine S59 ?_ | refine S60 ?_ | refine S61 ?_ | refine S62 ?_ | refine S63 ?_ | refine S64 ?_ | refine S65 ?_ | refine S66 ?_ | refine S67 ?_ | refine S68 ?_ | refine S69 ?_ | refine S70 ?_ | refine S71 ?_ | refine S72 ?_ | refine S73 ?_ | refine S74 ?_ | refine S75 ?_ | refine S76 ?_ | refine S77 ?_ | refine S78 ?_ | refine S79 ?_ | refine S80 ?_ | refine S81 ?_ | refine S82 ?_ | refine S83 ?_ | refine S84 ?_ | refine S85 ?_)
      exact ⟨.inr rfl, Ow.nil⟩
  · repeat (first | refine S0 ?_ | refine S1 ?_ | refine S2 ?_ | refine S3 ?_ | refine S4 ?_ | refine S5 ?_ | refine S6 ?_ | refine S7 ?_ | refine S8 ?_ | refine S9 ?_ | refine S10 ?_ | refine S11 ?_ | refine S12 ?_ | refine S13 ?_ | refine S14 ?_ | refine S15 ?_ | refine S16 ?_ | refine S17 ?_ ?_ | refine S18 ?_ | refine S19 ?_ | refine S20 ?_ | refine S21 ?_ | refine S22 ?_ | refine S23 ?_ | refine S24 ?_ | refine S25 ?_ | refine S26 ?_ | refine S27 ?_ | refine S28 ?_ | refine S29 ?_ | refine S30 ?_ | refine S31 ?_ | refine S32 ?_ | refine S33 ?_ | refine S34 ?_ | refine S35 ?_ | refine S36 ?_ | refine S37 ?_ | refine S38 ?_ | refine S39 ?_ | refine S40 ?_ | refine S41 ?_ | refine S42 ?_ | refine S43 ?_ | refine S44 ?_ | refine S45 ?_ | refine S46 ?_ | refine S47 ?_ | refine S48 ?_ | refine S49 ?_ | refine S50 ?_ | refine S51 ?_ | refine S52 ?_ | refine S53 ?_ | refine S54 ?_ | refine S55 ?_ | refine S56 ?_ | refine S57 ?_ | refine S58 ?_ | refine S59 ?_ | refine S60 ?_ | refine S61 ?_ | refine S62 ?_ | refine S63 ?_ | refine S64 ?_ | refine S65 ?_ | refine S66 ?_ | refine S67 ?_ | refine S68 ?_ | refine S69 ?_ | refine S70 ?_ | refine S71 ?_ | refine S72 ?_ | refine S73 ?_ | refine S74 ?_ | refine S75 ?_ | refine S76 ?_ | refine S77 ?_ | refine S78 ?_ | refine S79 ?_ | refine S80 ?_ | refine S81 ?_ | refine S82 ?_ | refine S83 ?_ | refine S84 ?_ | refine S85 ?_)
    exact ⟨.inr rfl, Ow.ints HBx rfl rfl⟩
set_option maxHeartbeats 2000000 in
set_option maxRecDepth 100000 in
theorem nz_s (x : Int) : SC Try.prog 45 [pint x] (.sc (.bool (decide (¬ x = 0)))) := by
  refine SC.go {} tok mixed Try.func45 rfl rfl Try.ntmps45 rfl rfl (by kernel_rfl) ?_
  first | simp only [updS] | simp only [updL, Nat.reduceAdd]
  repeat (first | refine S0 ?_ | refine S1 ?_ | refine S2 ?_ | refine S3 ?_ | refine S4 ?_ | refine S5 ?_ | refine S6 ?_ | refine S7 ?_ | refine S8 ?_ | refine S9 ?_ | refine S10 ?_ | refine S11 ?_ | refine S12 ?_ | refine S13 ?_ | refine S14 ?_ | refine S15 ?_ | refine S16 ?_ | refine S17 ?_ ?_ | refine S18 ?_ | refine S19 ?_ | refine S20 ?_ | refine S21 ?_ | refine S22 ?_ | refine S23 ?_ | refine S24 ?_ | refine S25 ?_ | refine S26 ?_ | refine S27 ?_ | refine S28 ?_ | refine S29 ?_ | refine S30 ?_ | refine S31 ?_ | refine S32 ?_ | refine S33 ?_ | refine S34 ?_ | refine S35 ?_ | refine S36 ?_ | refine S37 ?_ | refine S38 ?_ | refine S39 ?_ | refine S40 ?_ | refine S41 ?_ | refine S42 ?_ | refine S43 ?_ | refine S44 ?_ | refine S45 ?_ | refine S46 ?_ | refine S47 ?_ | refine S48 ?_ | refine S49 ?_ | refine S50 ?_ | refine S51 ?_ | refine S52 ?_ | refine S53 ?_ | refine S54 ?_ | refine S55 ?_ | refine S56 ?_ | refine S57 ?_ | refine S58 ?_ | refine S59 ?_ | refine S60 ?_ | refine S61 ?_ | refine S62 ?_ | refine S63 ?_ | refine S64 ?_ | refine S65 ?_ | refine S66 ?_ | refine S67 ?_ | refine S68 ?_ | refine S69 ?_ | refine S70 ?_ | refine S71 ?_ | refine S72 ?_ | refine S73 ?_ | refine S74 ?_ | refine S75 ?_ | refine S76 ?_ | refine S77 ?_ | refine S78 ?_ | refine S79 ?_ | refine S80 ?_ | refine S81 ?_ | refine S82 ?_ | refine S83 ?_ | refine S84 ?_ | refine S85 ?_)
  rw [decide_not]
  exact ⟨.inr rfl, .cl rfl⟩
set_option maxHeartbeats 8000000 in
set_option maxRecDepth 100000 in
theorem div_ok {a b : Po} (ha : pF a = 0) (hb : pF b = 0) : SC Try.prog 22 [ppo a, ppo b] (.tup [ppo (dvR a b).1, pint (dvR a b).2]) := by
  obtain ⟨a1, a2, a3, a4⟩ := pF_ok ha
  obtain ⟨b1, b2, b3, b4⟩ := pF_ok hb
  have hbo := both_s a b
  rw [if_pos ha, hb] at hbo
  have hbd := dst_bd a4 b4
  obtain ⟨la, ca⟩ := a
  obtain ⟨lb, cb⟩ := b
  simp only at a1 a2 a4 b1 b2 b4
  refine SC.go {} tok mixed Try.func22 rfl rfl Try.ntmps22 rfl rfl (by kernel_rfl) ?_
  first | simp only [updS] | simp only [updL, Nat.reduceAdd]
  repeat (first | refine S0 ?_ | refine S1 ?_ | refine S2 ?_ | refine S3 ?_ | refine S4 ?_ | refine S5 ?_ | refine S6 ?_ | refine S7 ?_ | refine S8 ?_ | refine S9 ?_ | refine S10 ?_ | refine S11 ?_ | refine S12 ?_ | refine S13 ?_ | refine S14 ?_ | refine S15 ?_ | refine S16 ?_ | refine S17 ?_ ?_ | refine S18 ?_ | refine S19 ?_ | refine S20 ?_ | refine S21 ?_ | refine S22 ?_ | refine S23 ?_ | refine S24 ?_ | refine S25 ?_ | refine S26 ?_ | refine S27 ?_ | refine S28 ?_ | refine S29 ?_ | refine S30 ?_ | refine S31 ?_ | refine S32 ?_ | refine S33 ?_ | refine S34 ?_ | refine S35 ?_ | refine S36 ?_ | refine S37 ?_ | refine S38 ?_ | refine S39 ?_ | refine S40 ?_ | refine S41 ?_ | refine S42 ?_ | refine S43 ?_ | refine S44 ?_ | refine S45 ?_ | refine S46 ?_ | refine S47 ?_ | refine S48 ?_ | refine S49 ?_ | refine S50 ?_ | refine S51 ?_ | refine S52 ?_ | refine S53 ?_ | refine S54 ?_ | refine S55 ?_ | refine S56 ?_ | refine S57 ?_ | refine S58 ?_ | refine S59 ?_ | refine S60 ?_ | refine S61 ?_ | refine S62 ?_ | refine S63 ?_ | refine S64 ?_ | refine S65 ?_ | refine S66 ?_ | refine S67 ?_ | refine S68 ?_ | refine S69 ?_ | refine S70 ?_ | refine S71 ?_ | refine S72 ?_ | refine S73 ?_ | refine S74 ?_ | refine S75 ?_ | refine S76 ?_ | refine S77 ?_ | refine S78 ?_ | refine S79 ?_ | refine S80 ?_ | refine S81 ?_ | refine S82 ?_ | refine S83 ?_ | refine S84 ?_ | refine S85 ?_)
  refine Scall (args := [ppo (la, ca), ppo (lb, cb)]) hbo ?_
  by_cases h0 : cb.length = 0
  · rw [dvR_6 h0]
    repeat (first | refine S0 ?_ | refine S1 ?_ | refine S2 ?_ | refine S3 ?_ | refine S4 ?_ | refine S5 ?_ | refine S6 ?_ | refine S7 ?_ | refine S8 ?_ | refine S9 ?_ | refine S10 ?_ | refine S11 ?_ | refine S12 ?_ | refine S13 ?_ | refine S14 ?_ | refine S15 ?_ | refine S16 ?_ | refine S17 ?_ ?_ | refine S18 ?_ | refine S19 ?_ | refine S20 ?_ | refine S21 ?_ | refine S22 ?_ | refine S23 ?_ | refine S24 ?_ | refine S25 ?_ | refine S26 ?_ | refine S27 ?_ | refine S28 ?_ | refine S29 ?_ | refine S30 ?_ | refine S31 ?_ | refine S32 ?_ | refine S33 ?_ | refine S34 ?_ | refine S35 ?_ | refine S36 ?_ | refine S37 ?_ | refine S38 ?_ | refine S39 ?_ | refine S40 ?_ | refine S41 ?_ | refine S42 ?_ | refine S43 ?_ | refine S44 ?_ | refine S45 ?_ | refine S46 ?_ | refine S47 ?_ | refine S48 ?_ | refine S49 ?_ | refine S50 ?_ | refine S51 ?_ | refine S52 ?_ | refine S53 ?_ | refine S54 ?_ | refine S55 ?_ | refine S56 ?_ | refine S57 ?_ | refine S58 ?_ | refine S59 ?_ | refine S60 ?_ | refine S61 ?_ | refine S62 ?_ | refine S63 ?_ | refine S64 ?_ | refine S65 ?_ | refine S66 ?_ | refine S67 ?_ | refine S68 ?_ | refine S69 ?_ | refine S70 ?_ | refine S71 ?_ | refine S72 ?_ | refine S73 ?_ | refine S74 ?_ | refine S75 ?_ | refine S76 ?_ | refine S77 ?_ | refine S78 ?_ | refine S79 ?_ | refine S80 ?_ | refine S81 ?_ | refine S82 ?_ | refine S83 ?_ | refine S84 ?_ | refine S85 ?_)
    exact ⟨.inr rfl, FR.cellTmp rfl HBx rfl rfl rfl (Fz.pair (.nrm rfl) (.cl rfl))⟩
  have e1 : ((cb.length : Int) - 1).toNat = cb.length - 1 := by omega
  have eL : dL (lb, cb) = cb.getD ((cb.length : Int) - 1).toNat 0 := by unfold dL; rw [e1]
  by_cases h1 : cb.getD ((cb.length : Int) - 1).toNat 0 ≠ 1 ∧ cb.getD ((cb.length : Int) - 1).toNat 0 ≠ -1
  · rw [dvR_3 h0 (by rw [eL]; exact h1)]
    obtain ⟨h2, h3⟩ := h1
    repeat (first | refine S0 ?_ | refine S1 ?_ | refine S2 ?_ | refine S3 ?_ | refine S4 ?_ | refine S5 ?_ | refine S6 ?_ | refine S7 ?_ | refine S8 ?_ | refine S9 ?_ | refine S10 ?_ | refine S11 ?_ | refine S12 ?_ | refine S13 ?_ | refine S14 ?_ | refine S15 ?_ | refine S16 ?_ | refine S17 ?_ ?_ | refine S18 ?_ | refine S19 ?_ | refine S20 ?_ | refine S21 ?_ | refine S22 ?_ | refine S23 ?_ | refine S24 ?_ | refine S25 ?_ | refine S26 ?_ | refine S27 ?_ | refine S28 ?_ | refine S29 ?_ | refine S30 ?_ | refine S31 ?_ | refine S32 ?_ | refine S33 ?_ | refine S34 ?_ | refine S35 ?_ | refine S36 ?_ | refine S37 ?_ | refine S38 ?_ | refine S39 ?_ | refine S40 ?_ | refine S41 ?_ | refine S42 ?_ | refine S43 ?_ | refine S44 ?_ | refine S45 ?_ | refine S46 ?_ | refine S47 ?_ | refine S48 ?_ | refine S49 ?_ | refine S50 ?_ | refine S51 ?_ | refine S52 ?_ | refine S53 ?_ | refine S54 ?_ | refine S55 ?_ | refine S56 ?_ | refine S57 ?_ | refine S58 ?_ | refine S59 ?_ | refine S60 ?_ | refine S61 ?_ | refine S62 ?_ | refine S63 ?_ | refine S64 ?_ | refine S65 ?_ | refine S66 ?_ | refine S67 ?_ | refine S68 ?_ | refine S69 ?_ | refine S70 ?_ | refine S71 ?_ | refine S72 ?_ | refine S73 ?_ | refine S74 ?_ | refine S75 ?_ | refine S76 ?_ | refine S77 ?_ | refine S78 ?_ | refine S79 ?_ | refine S80 ?_ | refine S81 ?_ | refine S82 ?_ | refine S83 ?_ | refine S84 ?_ | refine S85 ?_)
    exact ⟨.inr rfl, FR.cellTmp rfl HBx rfl rfl rfl (Fz.pair (.nrm rfl) (.cl rfl))⟩
  have h1' : ¬ (dL (lb, cb) ≠ 1 ∧ dL (lb, cb) ≠ -1) := by rw [eL]; exact h1
  obtain ⟨N, hN⟩ : ∃ N, N = dN (la, ca) (lb, cb) := ⟨_, rfl⟩
  have hN2 : N = ca.length + 1 - cb.length := hN
  obtain ⟨L, hL⟩ : ∃ L, L = dL (lb, cb) := ⟨_, rfl⟩
  rw [← hL] at eL h1'
  have hLb : L = 1 ∨ L = -1 := by omega
  have hNi : (if (ca.length : Int) - cb.length + 1 < 0 then 0 else (ca.length : Int) - cb.length + 1) = (N : Int) := by split <;> omega
  have eE : ∀ m : Nat, dE (la, ca) (lb, cb) m = la - lb + ((N : Int) - 1 - m) := fun m => by unfold dE; rw [← hN]
  have hqm : ∀ m, dq (la, ca) (lb, cb) m = (dst (la, ca) (lb, cb) m).1 (dE (la, ca) (lb, cb) m + lb + cb.length - 1) * L := fun m => by unfold dq; rw [hL]
  have hsR := dst_supp (a := (la, ca)) (b := (lb, cb)) (by simp only; omega)
  have hsQ := dst_Qsupp (a := (la, ca)) (b := (lb, cb))
  rw [← hN] at hsR hsQ
  simp only at hsR hsQ
  have hd0 : ∀ {j : Nat}, j < N → ¬ okc (dq (la, ca) (lb, cb) j) → dvR (la, ca) (lb, cb) = ((0, []), 2) := fun hj hb => dvR_2 h0 (by rw [← hL]; exact h1') (by rw [← hN]; exact hj) hb
  have hd7 : (∀ j, j < N → okc (dq (la, ca) (lb, cb) j)) → ∀ {x : Int}, (dst (la, ca) (lb, cb) N).1 x ≠ 0 → dvR (la, ca) (lb, cb) = ((0, []), 7) := fun h3 x hx => dvR_7 h0 (by rw [← hL]; exact h1') (by rw [← hN]; exact h3) (by rw [← hN]; exact hx)
  have hd1 : (∀ j, j < N → okc (dq (la, ca) (lb, cb) j)) → (∀ x, (dst (la, ca) (lb, cb) N).1 x = 0) → dvR (la, ca) (lb, cb) = (if pF (cano (dst (la, ca) (lb, cb) N).2) = 0 then cano (dst (la, ca) (lb, cb) N).2 else (0, []), if pF (cano (dst (la, ca) (lb, cb) N).2) = 0 then 0 else 2) := fun h3 hx => by
    have := dvR_0 h0 (by rw [← hL]; exact h1') (by rw [← hN]; exact h3) (by rw [← hN]; exact hx)
    rwa [← hN] at this
  have hnz := fun (c : List Int) (hl : c.length ≤ 1000000) => contains_gen (p := fun x => x = 0) nz_s c hl
  have hst := fun m => dst_R (la, ca) (lb, cb) m
  have hsq := fun m => dst_Q (la, ca) (lb, cb) m
  have hz0 : (dst (la, ca) (lb, cb) 0).1 = co (la, ca) := rfl
  have hz1 : (dst (la, ca) (lb, cb) 0).2 = fun _ => 0 := rfl
  obtain ⟨D, hD⟩ : ∃ D, D = dst (la, ca) (lb, cb) := ⟨_, rfl⟩
  obtain ⟨Z, hZ⟩ : ∃ Z, Z = dq (la, ca) (lb, cb) := ⟨_, rfl⟩
  obtain ⟨E, hE⟩ : ∃ E, E = dE (la, ca) (lb, cb) := ⟨_, rfl⟩
  rw [← hD] at hst hsq hz0 hz1 hqm hsR hsQ hd7 hd1 hbd
  rw [← hZ] at hd0 hd7 hd1 hqm hst hsq hbd
  rw [← hE] at eE hqm hst hsq
  have hca0 : ca = tab ca.length (fun j => (D 0).1 (la + j)) := by
    rw [hz0]
    exact tab_eq rfl (fun i hi => (co_at (la, ca) i).symm)
  have hN3 : N = 0 ∨ (N : Int) = ca.length + 1 - cb.length := by omega
  clear hD hZ hE hbo
  iterate 42 (first | refine S0 ?_ | refine S1 ?_ | refine S2 ?_ | refine S3 ?_ | refine S4 ?_ | refine S5 ?_ | refine S6 ?_ | refine S7 ?_ | refine S8 ?_ | refine S9 ?_ | refine S10 ?_ | refine S11 ?_ | refine S12 ?_ | refine S13 ?_ | refine S14 ?_ | refine S15 ?_ | refine S16 ?_ | refine S17 ?_ ?_ | refine S18 ?_ | refine S19 ?_ | refine S20 ?_ | refine S21 ?_ | refine S22 ?_ | refine S23 ?_ | refine S24 ?_ | refine S25 ?_ | refine S26 ?_ | refine S27 ?_ | refine S28 ?_ | refine S29 ?_ | refine S30 ?_ | refine S31 ?_ | refine S32 ?_ | refine S33 ?_ | refine S34 ?_ | refine S35 ?_ | refine S36 ?_ | refine S37 ?_ | refine S38 ?_ | refine S39 ?_ | refine S40 ?_ | refine S41 ?_ | refine S42 ?_ | refine S43 ?_ | refine S44 ?_ | refine S45 ?_ | refine S46 ?_ | refine S47 ?_ | refine S48 ?_ | refine S49 ?_ | refine S50 ?_ | refine S51 ?_ | refine S52 ?_ | refine S53 ?_ | refine S54 ?_ | refine S55 ?_ | refine S56 ?_ | refine S57 ?_ | refine S58 ?_ | refine S59 ?_ | refine S60 ?_ | refine S61 ?_ | refine S62 ?_ | refine S63 ?_ | refine S64 ?_ | refine S65 ?_ | refine S66 ?_ | refine S67 ?_ | refine S68 ?_ | refine S69 ?_ | refine S70 ?_ | refine S71 ?_ | refine S72 ?_ | refine S73 ?_ | refine S74 ?_ | refine S75 ?_ | refine S76 ?_ | refine S77 ?_ | refine S78 ?_ | refine S79 ?_ | refine S80 ?_ | refine S81 ?_ | refine S82 ?_ | refine S83 ?_ | refine S84 ?_ | refine S85 ?_)
  rw [← eL]
  refine CW.midS (fun _ : Unit => True) (fun _ => [(2, .lptr [pint la, pli ca]), (3, .lptr [pint lb, pli cb]), (4, .ptr 1 0), (7, pint cb.length), (8, pint L)]) (fun _ hp => hp.next = 1 ∧ hp.blk 1 = some [pint 0, .lst true 0 0 []]) ?_ ?_
  · rcases hLb with hL1 | hL1
    · repeat (first | refine S0 ?_ | refine S1 ?_ | refine S2 ?_ | refine S3 ?_ | refine S4 ?_ | refine S5 ?_ | refine S6 ?_ | refine S7 ?_ | refine S8 ?_ | refine S9 ?_ | refine S10 ?_ | refine S11 ?_ | refine S12 ?_ | refine S13 ?_ | refine S14 ?_ | refine S15 ?_ | refine S16 ?_ | refine S17 ?_ ?_ | refine S18 ?_ | refine S19 ?_ | refine S20 ?_ | refine S21 ?_ | refine S22 ?_ | refine S23 ?_ | refine S24 ?_ | refine S25 ?_ | refine S26 ?_ | refine S27 ?_ | refine S28 ?_ | refine S29 ?_ | refine S30 ?_ | refine S31 ?_ | refine S32 ?_ | refine S33 ?_ | refine S34 ?_ | refine S35 ?_ | refine S36 ?_ | refine S37 ?_ | refine S38 ?_ | refine S39 ?_ | refine S40 ?_ | refine S41 ?_ | refine S42 ?_ | refine S43 ?_ | refine S44 ?_ | refine S45 ?_ | refine S46 ?_ | refine S47 ?_ | refine S48 ?_ | refine S49 ?_ | refine S50 ?_ | refine S51 ?_ | refine S52 ?_ | refine S53 ?_ | refine S54 ?_ | refine S55 ?_ | refine S56 ?_ | refine S57 ?_ | refine S58 ?_ | refine S59 ?_ | refine S60 ?_ | refine S61 ?_ | refine S62 ?_ | refine S63 ?_ | refine S64 ?_ | refine S65 ?_ | refine S66 ?_ | refine S67 ?_ | refine S68 ?_ | refine S69 ?_ | refine S70 ?_ | refine S71 ?_ | refine S72 ?_ | refine S73 ?_ | refine S74 ?_ | refine S75 ?_ | refine S76 ?_ | refine S77 ?_ | refine S78 ?_ | refine S79 ?_ | refine S80 ?_ | refine S81 ?_ | refine S82 ?_ | refine S83 ?_ | refine S84 ?_ | refine S85 ?_)
      exact ⟨(), trivial, SLx, rfl, (by (try dsimp only); repeat' (first | exact HBx | exact SBx | refine And.intro ?_ ?_))⟩
    · repeat (first | refine S0 ?_ | refine S1 ?_ | refine S2 ?_ | refine S3 ?_ | refine S4 ?_ | refine S5 ?_ | refine S6 ?_ | refine S7 ?_ | refine S8 ?_ | refine S9 ?_ | refine S10 ?_ | refine S11 ?_ | refine S12 ?_ | refine S13 ?_ | refine S14 ?_ | refine S15 ?_ | refine S16 ?_ | refine S17 ?_ ?_ | refine S18 ?_ | refine S19 ?_ | refine S20 ?_ | refine S21 ?_ | refine S22 ?_ | refine S23 ?_ | refine S24 ?_ | refine S25 ?_ | refine S26 ?_ | refine S27 ?_ | refine S28 ?_ | refine S29 ?_ | refine S30 ?_ | refine S31 ?_ | refine S32 ?_ | refine S33 ?_ | refine S34 ?_ | refine S35 ?_ | refine S36 ?_ | refine S37 ?_ | refine S38 ?_ | refine S39 ?_ | refine S40 ?_ | refine S41 ?_ | refine S42 ?_ | refine S43 ?_ | refine S44 ?_ | refine S45 ?_ | refine S46 ?_ | refine S47 ?_ | refine S48 ?_ | refine S49 ?_ | refine S50 ?_ | refine S51 ?_ | refine S52 ?_ | refine S53 ?_ | refine S54 ?_ | refine S55 ?_ | refine S56 ?_ | refine S57 ?_ | refine S58 ?_ | refine S59 ?_ | refine S60 ?_ | refine S61 ?_ | refine S62 ?_ | refine S63 ?_ | refine S64 ?_ | refine S65 ?_ | refine S66 ?_ | refine S67 ?_ | refine S68 ?_ | refine S69 ?_ | refine S70 ?_ | refine S71 ?_ | refine S72 ?_ | refine S73 ?_ | refine S74 ?_ | refine S75 ?_ | refine S76 ?_ | refine S77 ?_ | refine S78 ?_ | refine S79 ?_ | refine S80 ?_ | refine S81 ?_ | refine S82 ?_ | refine S83 ?_ | refine S84 ?_ | refine S85 ?_)
      exact ⟨(), trivial, SLx, rfl, (by (try dsimp only); repeat' (first | exact HBx | exact SBx | refine And.intro ?_ ?_))⟩
  · rintro ⟨⟩ t h _ ⟨hNx, g1⟩
    first | simp only [updS] | simp only [updL, Nat.reduceAdd]
    have et : h.tok false = 2 := by rw [HP.tokF, hNx]
    have et2 : (h.add false (ints ca)).tok false = 4 := by rw [HP.tokF, HP.next_add, hNx]
    repeat (first | refine S0 ?_ | refine S1 ?_ | refine S2 ?_ | refine S3 ?_ | refine S4 ?_ | refine S5 ?_ | refine S6 ?_ | refine S7 ?_ | refine S8 ?_ | refine S9 ?_ | refine S10 ?_ | refine S11 ?_ | refine S12 ?_ | refine S13 ?_ | refine S14 ?_ | refine S15 ?_ | refine S16 ?_ | refine S17 ?_ ?_ | refine S18 ?_ | refine S19 ?_ | refine S20 ?_ | refine S21 ?_ | refine S22 ?_ | refine S23 ?_ | refine S24 ?_ | refine S25 ?_ | refine S26 ?_ | refine S27 ?_ | refine S28 ?_ | refine S29 ?_ | refine S30 ?_ | refine S31 ?_ | refine S32 ?_ | refine S33 ?_ | refine S34 ?_ | refine S35 ?_ | refine S36 ?_ | refine S37 ?_ | refine S38 ?_ | refine S39 ?_ | refine S40 ?_ | refine S41 ?_ | refine S42 ?_ | refine S43 ?_ | refine S44 ?_ | refine S45 ?_ | refine S46 ?_ | refine S47 ?_ | refine S48 ?_ | refine S49 ?_ | refine S50 ?_ | refine S51 ?_ | refine S52 ?_ | refine S53 ?_ | refine S54 ?_ | refine S55 ?_ | refine S56 ?_ | refine S57 ?_ | refine S58 ?_ | refine S59 ?_ | refine S60 ?_ | refine S61 ?_ | refine S62 ?_ | refine S63 ?_ | refine S64 ?_ | refine S65 ?_ | refine S66 ?_ | refine S67 ?_ | refine S68 ?_ | refine S69 ?_ | refine S70 ?_ | refine S71 ?_ | refine S72 ?_ | refine S73 ?_ | refine S74 ?_ | refine S75 ?_ | refine S76 ?_ | refine S77 ?_ | refine S78 ?_ | refine S79 ?_ | refine S80 ?_ | refine S81 ?_ | refine S82 ?_ | refine S83 ?_ | refine S84 ?_ | refine S85 ?_)
    refine Scallo (args := [pli ca]) (clone_o ca (by omega)) ?_
    repeat (first | refine S0 ?_ | refine S1 ?_ | refine S2 ?_ | refine S3 ?_ | refine S4 ?_ | refine S5 ?_ | refine S6 ?_ | refine S7 ?_ | refine S8 ?_ | refine S9 ?_ | refine S10 ?_ | refine S11 ?_ | refine S12 ?_ | refine S13 ?_ | refine S14 ?_ | refine S15 ?_ | refine S16 ?_ | refine S17 ?_ ?_ | refine S18 ?_ | refine S19 ?_ | refine S20 ?_ | refine S21 ?_ | refine S22 ?_ | refine S23 ?_ | refine S24 ?_ | refine S25 ?_ | refine S26 ?_ | refine S27 ?_ | refine S28 ?_ | refine S29 ?_ | refine S30 ?_ | refine S31 ?_ | refine S32 ?_ | refine S33 ?_ | refine S34 ?_ | refine S35 ?_ | refine S36 ?_ | refine S37 ?_ | refine S38 ?_ | refine S39 ?_ | refine S40 ?_ | refine S41 ?_ | refine S42 ?_ | refine S43 ?_ | refine S44 ?_ | refine S45 ?_ | refine S46 ?_ | refine S47 ?_ | refine S48 ?_ | refine S49 ?_ | refine S50 ?_ | refine S51 ?_ | refine S52 ?_ | refine S53 ?_ | refine S54 ?_ | refine S55 ?_ | refine S56 ?_ | refine S57 ?_ | refine S58 ?_ | refine S59 ?_ | refine S60 ?_ | refine S61 ?_ | refine S62 ?_ | refine S63 ?_ | refine S64 ?_ | refine S65 ?_ | refine S66 ?_ | refine S67 ?_ | refine S68 ?_ | refine S69 ?_ | refine S70 ?_ | refine S71 ?_ | refine S72 ?_ | refine S73 ?_ | refine S74 ?_ | refine S75 ?_ | refine S76 ?_ | refine S77 ?_ | refine S78 ?_ | refine S79 ?_ | refine S80 ?_ | refine S81 ?_ | refine S82 ?_ | refine S83 ?_ | refine S84 ?_ | refine S85 ?_)
    rw [hNi]
    repeat (first | refine S0 ?_ | refine S1 ?_ | refine S2 ?_ | refine S3 ?_ | refine S4 ?_ | refine S5 ?_ | refine S6 ?_ | refine S7 ?_ | refine S8 ?_ | refine S9 ?_ | refine S10 ?_ | refine S11 ?_ | refine S12 ?_ | refine S13 ?_ | refine S14 ?_ | refine S15 ?_ | refine S16 ?_ | refine S17 ?_ ?_ | refine S18 ?_ | refine S19 ?_ | refine S20 ?_ | refine S21 ?_ | refine S22 ?_ | refine S23 ?_ | refine S24 ?_ | refine S25 ?_ | refine S26 ?_ | refine S27 ?_ | refine S28 ?_ | refine S29 ?_ | refine S30 ?_ | refine S31 ?_ | refine S32 ?_ | refine S33 ?_ | refine S34 ?_ | refine S35 ?_ | refine S36 ?_ | refine S37 ?_ | refine S38 ?_ | refine S39 ?_ | refine S40 ?_ | refine S41 ?_ | refine S42 ?_ | refine S43 ?_ | refine S44 ?_ | refine S45 ?_ | refine S46 ?_ | refine S47 ?_ | refine S48 ?_ | refine S49 ?_ | refine S50 ?_ | refine S51 ?_ | refine S52 ?_ | refine S53 ?_ | refine S54 ?_ | refine S55 ?_ | refine S56 ?_ | refine S57 ?_ | refine S58 ?_ | refine S59 ?_ | refine S60 ?_ | refine S61 ?_ | refine S62 ?_ | refine S63 ?_ | refine S64 ?_ | refine S65 ?_ | refine S66 ?_ | refine S67 ?_ | refine S68 ?_ | refine S69 ?_ | refine S70 ?_ | refine S71 ?_ | refine S72 ?_ | refine S73 ?_ | refine S74 ?_ | refine S75 ?_ | refine S76 ?_ | refine S77 ?_ | refine S78 ?_ | refine S79 ?_ | refine S80 ?_ | refine S81 ?_ | refine S82 ?_ | refine S83 ?_ | refine S84 ?_ | refine S85 ?_)
    rw [et, et2]
    refine CW.loopS (fun i : Nat × Int => i.1 ≤ N ∧ i.2 = N - 1 - i.1 ∧ ∀ j, j < i.1 → okc (Z j)) (fun i => [(2, .lptr [pint la, pli ca]), (3, .lptr [pint lb, pli cb]), (4, .ptr 1 0), (7, pint cb.length), (8, pint L), (9, .ref 2 0 1 ca.length), (10, .ref 4 0 1 N), (11, pint i.2)]) (fun i hp => hp.blk 1 = some [pint 0, .lst true 0 0 []] ∧ hp.blk 2 = some (ints (tab ca.length (fun j => (D i.1).1 (la + j)))) ∧ hp.blk 4 = some (ints (tab N (fun j => (D i.1).2 (la - lb + j))))) (fun i => N - i.1) (0, (N : Int) - 1) ⟨⟨by omega, by simp, fun j hj => by simp only at hj; omega⟩, SLx, ?_⟩ ?_
    · dsimp only
      rw [← hca0, show tab N (fun j => (D 0).2 (la - lb + j)) = List.replicate N 0 from by rw [hz1, tab_zero]]
      refine ⟨HBx, ?_, ?_⟩
      · rw [← et]; exact HBx
      · rw [← et2]; exact HP.add_same _ _ _
    clear g1 hNx et et2 t h
    rintro ⟨m, s⟩ t h ⟨hm, hs, hok⟩ ⟨g1, g2, g4⟩
    simp only at hm hs hok g2 g4
    first | simp only [updS] | simp only [updL, Nat.reduceAdd]
    by_cases hs0 : 0 ≤ s
    · obtain ⟨zs, hzs⟩ : ∃ zs, zs = tab ca.length (fun j => (D m).1 (la + j)) := ⟨_, rfl⟩
      obtain ⟨qs, hqs⟩ : ∃ qs, qs = tab N (fun j => (D m).2 (la - lb + j)) := ⟨_, rfl⟩
      rw [← hzs] at g2
      rw [← hqs] at g4
      have hzl : zs.length = ca.length := by rw [hzs, tab_length]
      have hql : qs.length = N := by rw [hqs, tab_length]
      have hRb := hbd m hok
      have hEm : E m = la - lb + s := by rw [eE, hs]
      have hqz : zs.getD (s + (cb.length : Int) - 1).toNat 0 * L = Z m := by
        rw [acc_get (G := (D m).1) hzs (e := la + s + cb.length - 1) (by omega) (by omega), hqm, hEm, show la - lb + s + lb + (cb.length : Int) - 1 = la + s + cb.length - 1 by omega]
      have hin0 : in64 (zs.getD (s + (cb.length : Int) - 1).toNat 0 * L) := by
        rw [acc_get (G := (D m).1) hzs (e := la + s + cb.length - 1) (by omega) (by omega)]
        have := hRb (la + s + cb.length - 1)
        unfold in64; rcases hLb with hL1 | hL1 <;> rw [hL1] <;> omega
      by_cases c1 : zs.getD (s + (cb.length : Int) - 1).toNat 0 * L < -100000000
      · rw [hd0 (j := m) (by omega) (by rw [← hqz]; unfold okc; omega)]
        repeat (first | refine S0 ?_ | refine S1 ?_ | refine S2 ?_ | refine S3 ?_ | refine S4 ?_ | refine S5 ?_ | refine S6 ?_ | refine S7 ?_ | refine S8 ?_ | refine S9 ?_ | refine S10 ?_ | refine S11 ?_ | refine S12 ?_ | refine S13 ?_ | refine S14 ?_ | refine S15 ?_ | refine S16 ?_ | refine S17 ?_ ?_ | refine S18 ?_ | refine S19 ?_ | refine S20 ?_ | refine S21 ?_ | refine S22 ?_ | refine S23 ?_ | refine S24 ?_ | refine S25 ?_ | refine S26 ?_ | refine S27 ?_ | refine S28 ?_ | refine S29 ?_ | refine S30 ?_ | refine S31 ?_ | refine S32 ?_ | refine S33 ?_ | refine S34 ?_ | refine S35 ?_ | refine S36 ?_ | refine S37 ?_ | refine S38 ?_ | refine S39 ?_ | refine S40 ?_ | refine S41 ?_ | refine S42 ?_ | refine S43 ?_ | refine S44 ?_ | refine S45 ?_ | refine S46 ?_ | refine S47 ?_ | refine S48 ?_ | refine S49 ?_ | refine S50 ?_ | refine S51 ?_ | refine S52 ?_ | refine S53 ?_ | refine S54 ?_ | refine S55 ?_ | refine S56 ?_ | refine S57 ?_ | refine S58 ?_ | refine S59 ?_ | refine S60 ?_ | refine S61 ?_ | refine S62 ?_ | refine S63 ?_ | refine S64 ?_ | refine S65 ?_ | refine S66 ?_ | refine S67 ?_ | refine S68 ?_ | refine S69 ?_ | refine S70 ?_ | refine S71 ?_ | refine S72 ?_ | refine S73 ?_ | refine S74 ?_ | refine S75 ?_ | refine S76 ?_ | refine S77 ?_ | refine S78 ?_ | refine S79 ?_ | refine S80 ?_ | refine S81 ?_ | refine S82 ?_ | refine S83 ?_ | refine S84 ?_ | refine S85 ?_)
        exact ⟨.inr rfl, FR.cellTmp rfl HBx rfl rfl rfl (Fz.pair (.nrm rfl) (.cl rfl))⟩
      by_cases c2 : 100000000 < zs.getD (s + (cb.length : Int) - 1).toNat 0 * L
      · rw [hd0 (j := m) (by omega) (by rw [← hqz]; unfold okc; omega)]
        repeat (first | refine S0 ?_ | refine S1 ?_ | refine S2 ?_ | refine S3 ?_ | refine S4 ?_ | refine S5 ?_ | refine S6 ?_ | refine S7 ?_ | refine S8 ?_ | refine S9 ?_ | refine S10 ?_ | refine S11 ?_ | refine S12 ?_ | refine S13 ?_ | refine S14 ?_ | refine S15 ?_ | refine S16 ?_ | refine S17 ?_ ?_ | refine S18 ?_ | refine S19 ?_ | refine S20 ?_ | refine S21 ?_ | refine S22 ?_ | refine S23 ?_ | refine S24 ?_ | refine S25 ?_ | refine S26 ?_ | refine S27 ?_ | refine S28 ?_ | refine S29 ?_ | refine S30 ?_ | refine S31 ?_ | refine S32 ?_ | refine S33 ?_ | refine S34 ?_ | refine S35 ?_ | refine S36 ?_ | refine S37 ?_ | refine S38 ?_ | refine S39 ?_ | refine S40 ?_ | refine S41 ?_ | refine S42 ?_ | refine S43 ?_ | refine S44 ?_ | refine S45 ?_ | refine S46 ?_ | refine S47 ?_ | refine S48 ?_ | refine S49 ?_ | refine S50 ?_ | refine S51 ?_ | refine S52 ?_ | refine S53 ?_ | refine S54 ?_ | refine S55 ?_ | refine S56 ?_ | refine S57 ?_ | refine S58 ?_ | refine S59 ?_ | refine S60 ?_ | refine S61 ?_ | refine S62 ?_ | refine S63 ?_ | refine S64 ?_ | refine S65 ?_ | refine S66 ?_ | refine S67 ?_ | refine S68 ?_ | refine S69 ?_ | refine S70 ?_ | refine S71 ?_ | refine S72 ?_ | refine S73 ?_ | refine S74 ?_ | refine S75 ?_ | refine S76 ?_ | refine S77 ?_ | refine S78 ?_ | refine S79 ?_ | refine S80 ?_ | refine S81 ?_ | refine S82 ?_ | refine S83 ?_ | refine S84 ?_ | refine S85 ?_)
        exact ⟨.inr rfl, FR.cellTmp rfl HBx rfl rfl rfl (Fz.pair (.nrm rfl) (.cl rfl))⟩
      have hZm : okc (Z m) := by rw [← hqz]; unfold okc; omega
      have hput : qs.set s.toNat (Z m) = tab N (fun j => (D (m + 1)).2 (la - lb + j)) := acc_put (G := (D m).2) (G' := (D (m + 1)).2) hqs (e := la - lb + s) (by omega) (by omega) (fun x => by rw [hsq, hEm])
      repeat (first | refine S0 ?_ | refine S1 ?_ | refine S2 ?_ | refine S3 ?_ | refine S4 ?_ | refine S5 ?_ | refine S6 ?_ | refine S7 ?_ | refine S8 ?_ | refine S9 ?_ | refine S10 ?_ | refine S11 ?_ | refine S12 ?_ | refine S13 ?_ | refine S14 ?_ | refine S15 ?_ | refine S16 ?_ | refine S17 ?_ ?_ | refine S18 ?_ | refine S19 ?_ | refine S20 ?_ | refine S21 ?_ | refine S22 ?_ | refine S23 ?_ | refine S24 ?_ | refine S25 ?_ | refine S26 ?_ | refine S27 ?_ | refine S28 ?_ | refine S29 ?_ | refine S30 ?_ | refine S31 ?_ | refine S32 ?_ | refine S33 ?_ | refine S34 ?_ | refine S35 ?_ | refine S36 ?_ | refine S37 ?_ | refine S38 ?_ | refine S39 ?_ | refine S40 ?_ | refine S41 ?_ | refine S42 ?_ | refine S43 ?_ | refine S44 ?_ | refine S45 ?_ | refine S46 ?_ | refine S47 ?_ | refine S48 ?_ | refine S49 ?_ | refine S50 ?_ | refine S51 ?_ | refine S52 ?_ | refine S53 ?_ | refine S54 ?_ | refine S55 ?_ | refine S56 ?_ | refine S57 ?_ | refine S58 ?_ | refine S59 ?_ | refine S60 ?_ | refine S61 ?_ | refine S62 ?_ | refine S63 ?_ | refine S64 ?_ | refine S65 ?_ | refine S66 ?_ | refine S67 ?_ | refine S68 ?_ | refine S69 ?_ | refine S70 ?_ | refine S71 ?_ | refine S72 ?_ | refine S73 ?_ | refine S74 ?_ | refine S75 ?_ | refine S76 ?_ | refine S77 ?_ | refine S78 ?_ | refine S79 ?_ | refine S80 ?_ | refine S81 ?_ | refine S82 ?_ | refine S83 ?_ | refine S84 ?_ | refine S85 ?_)
      rw [hqz]
      refine CW.loopS (fun j : Nat => j ≤ cb.length) (fun j => [(2, .lptr [pint la, pli ca]), (3, .lptr [pint lb, pli cb]), (4, .ptr 1 0), (7, pint cb.length), (8, pint L), (9, .ref 2 0 1 ca.length), (10, .ref 4 0 1 N), (11, pint s), (12, pint (Z m)), (79, pli cb), (80, pint cb.length), (81, pint j)]) (fun j hp => hp.blk 1 = some [pint 0, .lst true 0 0 []] ∧ hp.blk 2 = some (ints (tab ca.length (fun q => (fun x => (D m).1 x - Z m * coT (lb, cb) j (x - E m)) (la + q)))) ∧ hp.blk 4 = some (ints (tab N (fun j => (D (m + 1)).2 (la - lb + j))))) (fun j => cb.length - j) 0 ⟨by omega, SLx, ?_⟩ ?_
      · have e0 : tab ca.length (fun q => (fun x => (D m).1 x - Z m * coT (lb, cb) 0 (x - E m)) (la + q)) = zs := by rw [hzs]; exact tab_congr (fun q _ => by simp only [coT_zero, Int.mul_zero, Int.sub_zero])
        dsimp only at e0 ⊢
        rw [e0, ← hput]
        exact (by (try dsimp only); repeat' (first | exact HBx | exact SBx | refine And.intro ?_ ?_))
      clear g1 g2 g4 t h hqs hql hput hin0
      rintro j t h hj ⟨g1, g2, g4⟩
      first | simp only [updS] | simp only [updL, Nat.reduceAdd]
      by_cases hj2 : j < cb.length
      · obtain ⟨ys, hys⟩ : ∃ ys, ys = tab ca.length (fun q => (fun x => (D m).1 x - Z m * coT (lb, cb) j (x - E m)) (la + q)) := ⟨_, rfl⟩
        rw [← hys] at g2
        have hyl : ys.length = ca.length := by rw [hys, tab_length]
        have hm2 := mul_bd hZm (b4 (cb.getD j 0) (by rw [getD_lt 0 hj2]; exact List.getElem_mem hj2))
        have hin0 : in64 (Z m * cb.getD j 0) := by unfold in64; omega
        have hin : in64 (ys.getD (s + (j : Int)).toNat 0 - Z m * cb.getD j 0) := by
          rw [acc_get (G := fun x => (D m).1 x - Z m * coT (lb, cb) j (x - E m)) hys (e := la + s + j) (by omega) (by omega)]
          have h3 : coT (lb, cb) j (la + s + j - E m) = 0 := if_neg (by simp only; omega)
          have h4 := hRb (la + s + j)
          simp only [h3, Int.mul_zero, Int.sub_zero]
          unfold in64; omega
        have hset : ys.set (s + (j : Int)).toNat (ys.getD (s + (j : Int)).toNat 0 - Z m * cb.getD j 0) = tab ca.length (fun q => (fun x => (D m).1 x - Z m * coT (lb, cb) (j + 1) (x - E m)) (la + q)) :=
          acc_sub (G := fun x => (D m).1 x - Z m * coT (lb, cb) j (x - E m)) (G' := fun x => (D m).1 x - Z m * coT (lb, cb) (j + 1) (x - E m)) hys (e := la + s + j) (by omega) (by omega) (fun x => by
            rw [coT_succ (lb, cb) j, Int.mul_add, ← Int.sub_sub]
            congr 1
            by_cases d : x = la + s + j
            · rw [if_pos d, if_pos (by simp only; omega)]
            · rw [if_neg d, if_neg (by simp only; omega), Int.mul_zero])
        repeat (first | refine S0 ?_ | refine S1 ?_ | refine S2 ?_ | refine S3 ?_ | refine S4 ?_ | refine S5 ?_ | refine S6 ?_ | refine S7 ?_ | refine S8 ?_ | refine S9 ?_ | refine S10 ?_ | refine S11 ?_ | refine S12 ?_ | refine S13 ?_ | refine S14 ?_ | refine S15 ?_ | refine S16 ?_ | refine S17 ?_ ?_ | refine S18 ?_ | refine S19 ?_ | refine S20 ?_ | refine S21 ?_ | refine S22 ?_ | refine S23 ?_ | refine S24 ?_ | refine S25 ?_ | refine S26 ?_ | refine S27 ?_ | refine S28 ?_ | refine S29 ?_ | refine S30 ?_ | refine S31 ?_ | refine S32 ?_ | refine S33 ?_ | refine S34 ?_ | refine S35 ?_ | refine S36 ?_ | refine S37 ?_ | refine S38 ?_ | refine S39 ?_ | refine S40 ?_ | refine S41 ?_ | refine S42 ?_ | refine S43 ?_ | refine S44 ?_ | refine S45 ?_ | refine S46 ?_ | refine S47 ?_ | refine S48 ?_ | refine S49 ?_ | refine S50 ?_ | refine S51 ?_ | refine S52 ?_ | refine S53 ?_ | refine S54 ?_ | refine S55 ?_ | refine S56 ?_ | refine S57 ?_ | refine S58 ?_ | refine S59 ?_ | refine S60 ?_ | refine S61 ?_ | refine S62 ?_ | refine S63 ?_ | refine S64 ?_ | refine S65 ?_ | refine S66 ?_ | refine S67 ?_ | refine S68 ?_ | refine S69 ?_ | refine S70 ?_ | refine S71 ?_ | refine S72 ?_ | refine S73 ?_ | refine S74 ?_ | refine S75 ?_ | refine S76 ?_ | refine S77 ?_ | refine S78 ?_ | refine S79 ?_ | refine S80 ?_ | refine S81 ?_ | refine S82 ?_ | refine S83 ?_ | refine S84 ?_ | refine S85 ?_)
        refine ⟨j + 1, by omega, SLx, ?_, by omega⟩
        dsimp only at hset ⊢
        rw [← hset]
        exact (by (try dsimp only); repeat' (first | exact HBx | exact SBx | refine And.intro ?_ ?_))
      · obtain rfl : j = cb.length := by omega
        have e0 : tab ca.length (fun q => (fun x => (D m).1 x - Z m * coT (lb, cb) cb.length (x - E m)) (la + q)) = tab ca.length (fun q => (D (m + 1)).1 (la + q)) := tab_congr (fun q _ => by
          rw [hst]
          simp only [coT_all (lb, cb)])
        rw [e0] at g2
        repeat (first | refine S0 ?_ | refine S1 ?_ | refine S2 ?_ | refine S3 ?_ | refine S4 ?_ | refine S5 ?_ | refine S6 ?_ | refine S7 ?_ | refine S8 ?_ | refine S9 ?_ | refine S10 ?_ | refine S11 ?_ | refine S12 ?_ | refine S13 ?_ | refine S14 ?_ | refine S15 ?_ | refine S16 ?_ | refine S17 ?_ ?_ | refine S18 ?_ | refine S19 ?_ | refine S20 ?_ | refine S21 ?_ | refine S22 ?_ | refine S23 ?_ | refine S24 ?_ | refine S25 ?_ | refine S26 ?_ | refine S27 ?_ | refine S28 ?_ | refine S29 ?_ | refine S30 ?_ | refine S31 ?_ | refine S32 ?_ | refine S33 ?_ | refine S34 ?_ | refine S35 ?_ | refine S36 ?_ | refine S37 ?_ | refine S38 ?_ | refine S39 ?_ | refine S40 ?_ | refine S41 ?_ | refine S42 ?_ | refine S43 ?_ | refine S44 ?_ | refine S45 ?_ | refine S46 ?_ | refine S47 ?_ | refine S48 ?_ | refine S49 ?_ | refine S50 ?_ | refine S51 ?_ | refine S52 ?_ | refine S53 ?_ | refine S54 ?_ | refine S55 ?_ | refine S56 ?_ | refine S57 ?_ | refine S58 ?_ | refine S59 ?_ | refine S60 ?_ | refine S61 ?_ | refine S62 ?_ | refine S63 ?_ | refine S64 ?_ | refine S65 ?_ | refine S66 ?_ | refine S67 ?_ | refine S68 ?_ | refine S69 ?_ | refine S70 ?_ | refine S71 ?_ | refine S72 ?_ | refine S73 ?_ | refine S74 ?_ | refine S75 ?_ | refine S76 ?_ | refine S77 ?_ | refine S78 ?_ | refine S79 ?_ | refine S80 ?_ | refine S81 ?_ | refine S82 ?_ | refine S83 ?_ | refine S84 ?_ | refine S85 ?_)
        refine ⟨(m + 1, s - 1), ⟨by omega, by simp only; omega, fun i hi => ?_⟩, SLx, (by (try dsimp only); repeat' (first | exact HBx | exact SBx | refine And.intro ?_ ?_)), by omega⟩
        by_cases e : i = m
        · subst e; exact hZm
        · exact hok i (by simp only at hi; omega)
    · obtain rfl : m = N := by omega
      refine CW.freezeI (xs := tab ca.length (fun j => (D m).1 (la + j))) 9 (by rw [tab_length]; rfl) g2 ?_
      refine CW.freezeI (xs := tab m (fun j => (D m).2 (la - lb + j))) 10 (by rw [tab_length]; rfl) HBx ?_
      repeat (first | refine S0 ?_ | refine S1 ?_ | refine S2 ?_ | refine S3 ?_ | refine S4 ?_ | refine S5 ?_ | refine S6 ?_ | refine S7 ?_ | refine S8 ?_ | refine S9 ?_ | refine S10 ?_ | refine S11 ?_ | refine S12 ?_ | refine S13 ?_ | refine S14 ?_ | refine S15 ?_ | refine S16 ?_ | refine S17 ?_ ?_ | refine S18 ?_ | refine S19 ?_ | refine S20 ?_ | refine S21 ?_ | refine S22 ?_ | refine S23 ?_ | refine S24 ?_ | refine S25 ?_ | refine S26 ?_ | refine S27 ?_ | refine S28 ?_ | refine S29 ?_ | refine S30 ?_ | refine S31 ?_ | refine S32 ?_ | refine S33 ?_ | refine S34 ?_ | refine S35 ?_ | refine S36 ?_ | refine S37 ?_ | refine S38 ?_ | refine S39 ?_ | refine S40 ?_ | refine S41 ?_ | refine S42 ?_ | refine S43 ?_ | refine S44 ?_ | refine S45 ?_ | refine S46 ?_ | refine S47 ?_ | refine S48 ?_ | refine S49 ?_ | refine S50 ?_ | refine S51 ?_ | refine S52 ?_ | refine S53 ?_ | refine S54 ?_ | refine S55 ?_ | refine S56 ?_ | refine S57 ?_ | refine S58 ?_ | refine S59 ?_ | refine S60 ?_ | refine S61 ?_ | refine S62 ?_ | refine S63 ?_ | refine S64 ?_ | refine S65 ?_ | refine S66 ?_ | refine S67 ?_ | refine S68 ?_ | refine S69 ?_ | refine S70 ?_ | refine S71 ?_ | refine S72 ?_ | refine S73 ?_ | refine S74 ?_ | refine S75 ?_ | refine S76 ?_ | refine S77 ?_ | refine S78 ?_ | refine S79 ?_ | refine S80 ?_ | refine S81 ?_ | refine S82 ?_ | refine S83 ?_ | refine S84 ?_ | refine S85 ?_)
      have hc := hnz (tab ca.length (fun j => (D m).1 (la + j))) (by rw [tab_length]; omega)
      by_cases hall : ∀ x ∈ tab ca.length (fun j => (D m).1 (la + j)), x = 0
      · rw [decide_eq_false (fun hh => hh hall)] at hc
        refine Scall (args := [pli (tab ca.length (fun j => (D m).1 (la + j))), .clo 45 []]) hc ?_
        rw [hd1 hok (fun x => Classical.byContradiction fun hx => by
          have := hsR m (Nat.le_refl _) x hx
          apply hx
          have h5 := hall ((tab ca.length (fun j => (D m).1 (la + j))).getD (x - la).toNat 0) (by rw [getD_lt 0 (by rw [tab_length]; omega)]; exact List.getElem_mem _)
          rw [tab_get (by omega), show la + ((x - la).toNat : Int) = x by omega] at h5
          exact h5)]
        repeat (first | refine S0 ?_ | refine S1 ?_ | refine S2 ?_ | refine S3 ?_ | refine S4 ?_ | refine S5 ?_ | refine S6 ?_ | refine S7 ?_ | refine S8 ?_ | refine S9 ?_ | refine S10 ?_ | refine S11 ?_ | refine S12 ?_ | refine S13 ?_ | refine S14 ?_ | refine S15 ?_ | refine S16 ?_ | refine S17 ?_ ?_ | refine S18 ?_ | refine S19 ?_ | refine S20 ?_ | refine S21 ?_ | refine S22 ?_ | refine S23 ?_ | refine S24 ?_ | refine S25 ?_ | refine S26 ?_ | refine S27 ?_ | refine S28 ?_ | refine S29 ?_ | refine S30 ?_ | refine S31 ?_ | refine S32 ?_ | refine S33 ?_ | refine S34 ?_ | refine S35 ?_ | refine S36 ?_ | refine S37 ?_ | refine S38 ?_ | refine S39 ?_ | refine S40 ?_ | refine S41 ?_ | refine S42 ?_ | refine S43 ?_ | refine S44 ?_ | refine S45 ?_ | refine S46 ?_ | refine S47 ?_ | refine S48 ?_ | refine S49 ?_ | refine S50 ?_ | refine S51 ?_ | refine S52 ?_ | refine S53 ?_ | refine S54 ?_ | refine S55 ?_ | refine S56 ?_ | refine S57 ?_ | refine S58 ?_ | refine S59 ?_ | refine S60 ?_ | refine S61 ?_ | refine S62 ?_ | refine S63 ?_ | refine S64 ?_ | refine S65 ?_ | refine S66 ?_ | refine S67 ?_ | refine S68 ?_ | refine S69 ?_ | refine S70 ?_ | refine S71 ?_ | refine S72 ?_ | refine S73 ?_ | refine S74 ?_ | refine S75 ?_ | refine S76 ?_ | refine S77 ?_ | refine S78 ?_ | refine S79 ?_ | refine S80 ?_ | refine S81 ?_ | refine S82 ?_ | refine S83 ?_ | refine S84 ?_ | refine S85 ?_)
        refine Scall (args := [pint (la - lb), pli (tab m (fun j => (D m).2 (la - lb + j)))]) (trim_s (la - lb) _ (by omega) (by rw [tab_length]; omega)) ?_
        rw [co_tab (F := (D m).2) (fun e he => hsQ m (Nat.le_refl _) e he)]
        repeat (first | refine S0 ?_ | refine S1 ?_ | refine S2 ?_ | refine S3 ?_ | refine S4 ?_ | refine S5 ?_ | refine S6 ?_ | refine S7 ?_ | refine S8 ?_ | refine S9 ?_ | refine S10 ?_ | refine S11 ?_ | refine S12 ?_ | refine S13 ?_ | refine S14 ?_ | refine S15 ?_ | refine S16 ?_ | refine S17 ?_ ?_ | refine S18 ?_ | refine S19 ?_ | refine S20 ?_ | refine S21 ?_ | refine S22 ?_ | refine S23 ?_ | refine S24 ?_ | refine S25 ?_ | refine S26 ?_ | refine S27 ?_ | refine S28 ?_ | refine S29 ?_ | refine S30 ?_ | refine S31 ?_ | refine S32 ?_ | refine S33 ?_ | refine S34 ?_ | refine S35 ?_ | refine S36 ?_ | refine S37 ?_ | refine S38 ?_ | refine S39 ?_ | refine S40 ?_ | refine S41 ?_ | refine S42 ?_ | refine S43 ?_ | refine S44 ?_ | refine S45 ?_ | refine S46 ?_ | refine S47 ?_ | refine S48 ?_ | refine S49 ?_ | refine S50 ?_ | refine S51 ?_ | refine S52 ?_ | refine S53 ?_ | refine S54 ?_ | refine S55 ?_ | refine S56 ?_ | refine S57 ?_ | refine S58 ?_ | refine S59 ?_ | refine S60 ?_ | refine S61 ?_ | refine S62 ?_ | refine S63 ?_ | refine S64 ?_ | refine S65 ?_ | refine S66 ?_ | refine S67 ?_ | refine S68 ?_ | refine S69 ?_ | refine S70 ?_ | refine S71 ?_ | refine S72 ?_ | refine S73 ?_ | refine S74 ?_ | refine S75 ?_ | refine S76 ?_ | refine S77 ?_ | refine S78 ?_ | refine S79 ?_ | refine S80 ?_ | refine S81 ?_ | refine S82 ?_ | refine S83 ?_ | refine S84 ?_ | refine S85 ?_)
        refine Scall (args := [ppo (cano (D m).2)]) (fit_s _) ?_
        unfold fitP
        repeat (first | refine S0 ?_ | refine S1 ?_ | refine S2 ?_ | refine S3 ?_ | refine S4 ?_ | refine S5 ?_ | refine S6 ?_ | refine S7 ?_ | refine S8 ?_ | refine S9 ?_ | refine S10 ?_ | refine S11 ?_ | refine S12 ?_ | refine S13 ?_ | refine S14 ?_ | refine S15 ?_ | refine S16 ?_ | refine S17 ?_ ?_ | refine S18 ?_ | refine S19 ?_ | refine S20 ?_ | refine S21 ?_ | refine S22 ?_ | refine S23 ?_ | refine S24 ?_ | refine S25 ?_ | refine S26 ?_ | refine S27 ?_ | refine S28 ?_ | refine S29 ?_ | refine S30 ?_ | refine S31 ?_ | refine S32 ?_ | refine S33 ?_ | refine S34 ?_ | refine S35 ?_ | refine S36 ?_ | refine S37 ?_ | refine S38 ?_ | refine S39 ?_ | refine S40 ?_ | refine S41 ?_ | refine S42 ?_ | refine S43 ?_ | refine S44 ?_ | refine S45 ?_ | refine S46 ?_ | refine S47 ?_ | refine S48 ?_ | refine S49 ?_ | refine S50 ?_ | refine S51 ?_ | refine S52 ?_ | refine S53 ?_ | refine S54 ?_ | refine S55 ?_ | refine S56 ?_ | refine S57 ?_ | refine S58 ?_ | refine S59 ?_ | refine S60 ?_ | refine S61 ?_ | refine S62 ?_ | refine S63 ?_ | refine S64 ?_ | refine S65 ?_ | refine S66 ?_ | refine S67 ?_ | refine S68 ?_ | refine S69 ?_ | refine S70 ?_ | refine S71 ?_ | refine S72 ?_ | refine S73 ?_ | refine S74 ?_ | refine S75 ?_ | refine S76 ?_ | refine S77 ?_ | refine S78 ?_ | refine S79 ?_ | refine S80 ?_ | refine S81 ?_ | refine S82 ?_ | refine S83 ?_ | refine S84 ?_ | refine S85 ?_)
        refine ⟨.inr rfl, FR.cellTmp rfl HBx rfl rfl rfl (Fz.pair ?_ (.cl rfl))⟩
        exact .cl (by simp only [PV.cl, PV.cl.clL, pint_cl, pli_cl, Bool.and_self])
      · rw [decide_eq_true hall] at hc
        refine Scall (args := [pli (tab ca.length (fun j => (D m).1 (la + j))), .clo 45 []]) hc ?_
        obtain ⟨x, hx⟩ : ∃ x, (D m).1 x ≠ 0 := Classical.byContradiction fun hn => hall (fun y hy => by
          obtain ⟨i, hi, rfl⟩ := List.getElem_of_mem hy
          rw [← getD_lt 0 hi, tab_get (by simpa using hi)]
          exact Classical.byContradiction fun h6 => hn ⟨_, h6⟩)
        rw [hd7 hok hx]
        repeat (first | refine S0 ?_ | refine S1 ?_ | refine S2 ?_ | refine S3 ?_ | refine S4 ?_ | refine S5 ?_ | refine S6 ?_ | refine S7 ?_ | refine S8 ?_ | refine S9 ?_ | refine S10 ?_ | refine S11 ?_ | refine S12 ?_ | refine S13 ?_ | refine S14 ?_ | refine S15 ?_ | refine S16 ?_ | refine S17 ?_ ?_ | refine S18 ?_ | refine S19 ?_ | refine S20 ?_ | refine S21 ?_ | refine S22 ?_ | refine S23 ?_ | refine S24 ?_ | refine S25 ?_ | refine S26 ?_ | refine S27 ?_ | refine S28 ?_ | refine S29 ?_ | refine S30 ?_ | refine S31 ?_ | refine S32 ?_ | refine S33 ?_ | refine S34 ?_ | refine S35 ?_ | refine S36 ?_ | refine S37 ?_ | refine S38 ?_ | refine S39 ?_ | refine S40 ?_ | refine S41 ?_ | refine S42 ?_ | refine S43 ?_ | refine S44 ?_ | refine S45 ?_ | refine S46 ?_ | refine S47 ?_ | refine S48 ?_ | refine S49 ?_ | refine S50 ?_ | refine S51 ?_ | refine S52 ?_ | refine S53 ?_ | refine S54 ?_ | refine S55 ?_ | refine S56 ?_ | refine S57 ?_ | refine S58 ?_ | refine S59 ?_ | refine S60 ?_ | refine S61 ?_ | refine S62 ?_ | refine S63 ?_ | refine S64 ?_ | refine S65 ?_ | refine S66 ?_ | refine S67 ?_ | refine S68 ?_ | refine S69 ?_ | refine S70 ?_ | refine S71 ?_ | refine S72 ?_ | refine S73 ?_ | refine S74 ?_ | refine S75 ?_ | refine S76 ?_ | refine S77 ?_ | refine S78 ?_ | refine S79 ?_ | refine S80 ?_ | refine S81 ?_ | refine S82 ?_ | refine S83 ?_ | refine S84 ?_ | refine S85 ?_)
        exact ⟨.inr rfl, FR.cellTmp rfl HBx rfl rfl rfl (Fz.pair (.nrm rfl) (.cl rfl))⟩
end Go.Proofs.Ytehilackpaejnaa
