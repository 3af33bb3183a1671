/- laurent: Times, Mul; multiplied. No condition of its own. -/
import Derived.Test.YtehilackpaejnaaGPolyDetsBG
set_option linter.unusedVariables false
set_option linter.unusedSimpArgs false
namespace Go.Proofs.Ytehilackpaejnaa
open Go.RowKit

/-- the product: the rows below i, and of row i the first j -/
def cv (a b : Po) (i j : Nat) (e : Int) : Int := ((List.range i).map fun r => a.2.getD r 0 * co b (e - a.1 - r)).sum + a.2.getD i 0 * coT b j (e - a.1 - i)
def cvn (a b : Po) (i : Nat) (e : Int) : Int := ((List.range i).map fun r => a.2.getD r 0 * co b (e - a.1 - r)).sum
def pmul (a b : Po) (e : Int) : Int := cvn a b a.2.length e
theorem cvn_succ (a b : Po) (i : Nat) (e : Int) : cvn a b (i + 1) e = cvn a b i e + a.2.getD i 0 * co b (e - a.1 - i) := by
  unfold cvn
  rw [List.range_succ, List.map_append, List.sum_append]; simp
theorem cvn_bd {a b : Po} {A B : Int} (hA : ∀ k, -A ≤ a.2.getD k 0 ∧ a.2.getD k 0 ≤ A) (hB : ∀ e, -B ≤ co b e ∧ co b e ≤ B) (i : Nat) (e : Int) : -(i * (A * B)) ≤ cvn a b i e ∧ cvn a b i e ≤ i * (A * B) := by
  have := sum_bd (K := A * B) (l := (List.range i).map fun r => a.2.getD r 0 * co b (e - a.1 - r)) (fun z hz => by
    obtain ⟨r, _, rfl⟩ := List.mem_map.1 hz
    exact mul_bd (hA r) (hB _))
  rw [List.length_map, List.length_range] at this
  exact this
theorem cvn_supp {a b : Po} {i : Nat} (hi : i ≤ a.2.length) {e : Int} (h : cvn a b i e ≠ 0) : a.1 + b.1 ≤ e ∧ e < a.1 + b.1 + (a.2.length + b.2.length - 1 : Nat) := by
  apply Classical.byContradiction; intro hc
  apply h
  unfold cvn
  apply sum_zero
  intro z hz
  obtain ⟨r, hr, rfl⟩ := List.mem_map.1 hz
  rw [List.mem_range] at hr
  by_cases h1 : co b (e - a.1 - r) = 0
  · rw [h1, Int.mul_zero]
  · have := co_in h1; omega
theorem getD_okc {c : List Int} {A : Int} (hA : 0 ≤ A) (h : ∀ x ∈ c, -A ≤ x ∧ x ≤ A) (k : Nat) : -A ≤ c.getD k 0 ∧ c.getD k 0 ≤ A := by
  by_cases hk : k < c.length
  · rw [getD_lt 0 hk]; exact h _ (List.getElem_mem hk)
  · rw [getD_out (by omega)]; omega
set_option maxHeartbeats 8000000 in
set_option maxRecDepth 100000 in
theorem times_s (a b : Po) (A B : Int) (hla : -100000 ≤ a.1 ∧ a.1 ≤ 100000) (hlb : -100000 ≤ b.1 ∧ b.1 ≤ 100000) (hca : a.2.length ≤ 10000) (hcb : b.2.length ≤ 10000)
    (hA0 : 0 ≤ A) (hB0 : 0 ≤ B) (hA : ∀ x ∈ a.2, -A ≤ x ∧ x ≤ A) (hB : ∀ x ∈ b.2, -B ≤ x ∧ x ≤ B) (hbd : a.2.length * (A * B) ≤ 9000000000000000000) : SC Try.prog 41 [ppo a, ppo b] (ppo (cano (pmul a b))) := by
  obtain ⟨la, ca⟩ := a
  obtain ⟨lb, cb⟩ := b
  simp only at hla hlb hca hcb hA hB hbd
  refine SC.go {} tok mixed Try.func41 rfl rfl Try.ntmps41 rfl rfl (by kernel_rfl) ?_
  first | simp only [updS] | simp only [updL, Nat.reduceAdd]
  by_cases h1 : ca.length = 0
  · obtain rfl : ca = [] := List.length_eq_zero_iff.1 h1
    rw [cano_zero (F := pmul (la, []) (lb, cb)) (fun e => rfl)]
    repeat (first | refine S0 ?_ | refine S1 ?_ | refine S2 ?_ | refine S3 ?_ | refine S4 ?_ | refine S5 ?_ | refine S6 ?_ | refine S7 ?_ | refine S8 ?_ | refine S9 ?_ | refine S10 ?_ | refine S11 ?_ | refine S12 ?_ | refine S13 ?_ | refine S14 ?_ | refine S15 ?_ | refine S16 ?_ | refine S17 ?_ ?_ | refine S18 ?_ | refine S19 ?_ | refine S20 ?_ | refine S21 ?_ | refine S22 ?_ | refine S23 ?_ | refine S24 ?_ | refine S25 ?_ | refine S26 ?_ | refine S27 ?_ | refine S28 ?_ | refine S29 ?_ | refine S30 ?_ | refine S31 ?_ | refine S32 ?_ | refine S33 ?_ | refine S34 ?_ | refine S35 ?_ | refine S36 ?_ | refine S37 ?_ | refine S38 ?_ | refine S39 ?_ | refine S40 ?_ | refine S41 ?_ | refine S42 ?_ | refine S43 ?_ | refine S44 ?_ | refine S45 ?_ | refine S46 ?_ | refine S47 ?_ | refine S48 ?_ | refine S49 ?_ | refine S50 ?_ | refine S51 ?_ | refine S52 ?_ | refine S53 ?_ | refine S54 ?_ | refine S55 ?_ | refine S56 ?_ | refine S57 ?_ | refine S58 ?_ | refine S59 ?_ | refine S60 ?_ | refine S61 ?_ | refine S62 ?_ | refine S63 ?_ | refine S64 ?_ | refine S65 ?_ | refine S66 ?_ | refine S67 ?_ | refine S68 ?_ | refine S69 ?_ | refine S70 ?_ | refine S71 ?_ | refine S72 ?_ | refine S73 ?_ | refine S74 ?_ | refine S75 ?_ | refine S76 ?_ | refine S77 ?_ | refine S78 ?_ | refine S79 ?_ | refine S80 ?_ | refine S81 ?_ | refine S82 ?_ | refine S83 ?_ | refine S84 ?_ | refine S85 ?_ | refine S86 ?_ | refine S87 ?_)
    exact ⟨.inr rfl, FR.cell1 rfl HBx rfl rfl (.nrm rfl)⟩
  by_cases h2 : cb.length = 0
  · obtain rfl : cb = [] := List.length_eq_zero_iff.1 h2
    rw [cano_zero (F := pmul (la, ca) (lb, [])) (fun e => by
      unfold pmul cvn
      apply sum_zero
      intro z hz
      obtain ⟨r, _, rfl⟩ := List.mem_map.1 hz
      rw [co_nil, Int.mul_zero])]
    repeat (first | refine S0 ?_ | refine S1 ?_ | refine S2 ?_ | refine S3 ?_ | refine S4 ?_ | refine S5 ?_ | refine S6 ?_ | refine S7 ?_ | refine S8 ?_ | refine S9 ?_ | refine S10 ?_ | refine S11 ?_ | refine S12 ?_ | refine S13 ?_ | refine S14 ?_ | refine S15 ?_ | refine S16 ?_ | refine S17 ?_ ?_ | refine S18 ?_ | refine S19 ?_ | refine S20 ?_ | refine S21 ?_ | refine S22 ?_ | refine S23 ?_ | refine S24 ?_ | refine S25 ?_ | refine S26 ?_ | refine S27 ?_ | refine S28 ?_ | refine S29 ?_ | refine S30 ?_ | refine S31 ?_ | refine S32 ?_ | refine S33 ?_ | refine S34 ?_ | refine S35 ?_ | refine S36 ?_ | refine S37 ?_ | refine S38 ?_ | refine S39 ?_ | refine S40 ?_ | refine S41 ?_ | refine S42 ?_ | refine S43 ?_ | refine S44 ?_ | refine S45 ?_ | refine S46 ?_ | refine S47 ?_ | refine S48 ?_ | refine S49 ?_ | refine S50 ?_ | refine S51 ?_ | refine S52 ?_ | refine S53 ?_ | refine S54 ?_ | refine S55 ?_ | refine S56 ?_ | refine S57 ?_ | refine S58 ?_ | refine S59 ?_ | refine S60 ?_ | refine S61 ?_ | refine S62 ?_ | refine S63 ?_ | refine S64 ?_ | refine S65 ?_ | refine S66 ?_ | refine S67 ?_ | refine S68 ?_ | refine S69 ?_ | refine S70 ?_ | refine S71 ?_ | refine S72 ?_ | refine S73 ?_ | refine S74 ?_ | refine S75 ?_ | refine S76 ?_ | refine S77 ?_ | refine S78 ?_ | refine S79 ?_ | refine S80 ?_ | refine S81 ?_ | refine S82 ?_ | refine S83 ?_ | refine S84 ?_ | refine S85 ?_ | refine S86 ?_ | refine S87 ?_)
    exact ⟨.inr rfl, FR.cell1 rfl HBx rfl rfl (.nrm rfl)⟩
  obtain ⟨n, hn⟩ : ∃ n : Nat, (ca.length : Int) + (cb.length : Int) - 1 = n := ⟨ca.length + cb.length - 1, by omega⟩
  have bA := getD_okc hA0 hA
  have bB := co_bd (p := (lb, cb)) hB0 hB
  have bT := coT_bd (p := (lb, cb)) hB0 hB
  have hAB : 0 ≤ A * B := Int.mul_nonneg hA0 hB0
  repeat (first | refine S0 ?_ | refine S1 ?_ | refine S2 ?_ | refine S3 ?_ | refine S4 ?_ | refine S5 ?_ | refine S6 ?_ | refine S7 ?_ | refine S8 ?_ | refine S9 ?_ | refine S10 ?_ | refine S11 ?_ | refine S12 ?_ | refine S13 ?_ | refine S14 ?_ | refine S15 ?_ | refine S16 ?_ | refine S17 ?_ ?_ | refine S18 ?_ | refine S19 ?_ | refine S20 ?_ | refine S21 ?_ | refine S22 ?_ | refine S23 ?_ | refine S24 ?_ | refine S25 ?_ | refine S26 ?_ | refine S27 ?_ | refine S28 ?_ | refine S29 ?_ | refine S30 ?_ | refine S31 ?_ | refine S32 ?_ | refine S33 ?_ | refine S34 ?_ | refine S35 ?_ | refine S36 ?_ | refine S37 ?_ | refine S38 ?_ | refine S39 ?_ | refine S40 ?_ | refine S41 ?_ | refine S42 ?_ | refine S43 ?_ | refine S44 ?_ | refine S45 ?_ | refine S46 ?_ | refine S47 ?_ | refine S48 ?_ | refine S49 ?_ | refine S50 ?_ | refine S51 ?_ | refine S52 ?_ | refine S53 ?_ | refine S54 ?_ | refine S55 ?_ | refine S56 ?_ | refine S57 ?_ | refine S58 ?_ | refine S59 ?_ | refine S60 ?_ | refine S61 ?_ | refine S62 ?_ | refine S63 ?_ | refine S64 ?_ | refine S65 ?_ | refine S66 ?_ | refine S67 ?_ | refine S68 ?_ | refine S69 ?_ | refine S70 ?_ | refine S71 ?_ | refine S72 ?_ | refine S73 ?_ | refine S74 ?_ | refine S75 ?_ | refine S76 ?_ | refine S77 ?_ | refine S78 ?_ | refine S79 ?_ | refine S80 ?_ | refine S81 ?_ | refine S82 ?_ | refine S83 ?_ | refine S84 ?_ | refine S85 ?_ | refine S86 ?_ | refine S87 ?_)
  rw [hn]
  repeat (first | refine S0 ?_ | refine S1 ?_ | refine S2 ?_ | refine S3 ?_ | refine S4 ?_ | refine S5 ?_ | refine S6 ?_ | refine S7 ?_ | refine S8 ?_ | refine S9 ?_ | refine S10 ?_ | refine S11 ?_ | refine S12 ?_ | refine S13 ?_ | refine S14 ?_ | refine S15 ?_ | refine S16 ?_ | refine S17 ?_ ?_ | refine S18 ?_ | refine S19 ?_ | refine S20 ?_ | refine S21 ?_ | refine S22 ?_ | refine S23 ?_ | refine S24 ?_ | refine S25 ?_ | refine S26 ?_ | refine S27 ?_ | refine S28 ?_ | refine S29 ?_ | refine S30 ?_ | refine S31 ?_ | refine S32 ?_ | refine S33 ?_ | refine S34 ?_ | refine S35 ?_ | refine S36 ?_ | refine S37 ?_ | refine S38 ?_ | refine S39 ?_ | refine S40 ?_ | refine S41 ?_ | refine S42 ?_ | refine S43 ?_ | refine S44 ?_ | refine S45 ?_ | refine S46 ?_ | refine S47 ?_ | refine S48 ?_ | refine S49 ?_ | refine S50 ?_ | refine S51 ?_ | refine S52 ?_ | refine S53 ?_ | refine S54 ?_ | refine S55 ?_ | refine S56 ?_ | refine S57 ?_ | refine S58 ?_ | refine S59 ?_ | refine S60 ?_ | refine S61 ?_ | refine S62 ?_ | refine S63 ?_ | refine S64 ?_ | refine S65 ?_ | refine S66 ?_ | refine S67 ?_ | refine S68 ?_ | refine S69 ?_ | refine S70 ?_ | refine S71 ?_ | refine S72 ?_ | refine S73 ?_ | refine S74 ?_ | refine S75 ?_ | refine S76 ?_ | refine S77 ?_ | refine S78 ?_ | refine S79 ?_ | refine S80 ?_ | refine S81 ?_ | refine S82 ?_ | refine S83 ?_ | refine S84 ?_ | refine S85 ?_ | refine S86 ?_ | refine S87 ?_)
  refine CW.loopS (fun i : Nat => i ≤ ca.length) (fun i => [(2, .lptr [pint la, pli ca]), (3, .lptr [pint lb, pli cb]), (4, .ptr 1 0), (5, .ref 2 0 1 n), (31, pli ca), (32, pint ca.length), (33, pint i)]) (fun i hp => hp.blk 1 = some [pint 0, .lst true 0 0 []] ∧ hp.blk 2 = some (ints (tab n (fun j => cvn (la, ca) (lb, cb) i (la + lb + j))))) (fun i => ca.length - i) 0 ⟨by omega, SLx, ?_⟩ ?_
  · have e0 : List.replicate n (0 : Int) = tab n (fun j => cvn (la, ca) (lb, cb) 0 (la + lb + j)) := by rw [tab_zero]; exact tab_congr (fun i _ => rfl)
    dsimp only
    rw [← e0]
    exact (by (try dsimp only); repeat' (first | exact HBx | exact SBx | refine And.intro ?_ ?_))
  rintro i t h hi ⟨b1, b2⟩
  first | simp only [updS] | simp only [updL, Nat.reduceAdd]
  by_cases hi2 : i < ca.length
  · have hlK : (((i : Nat) : Int) + 1) * (A * B) ≤ 9000000000000000000 := Int.le_trans (Int.mul_le_mul_of_nonneg_right (by omega) hAB) hbd
    rw [Int.add_mul, Int.one_mul] at hlK
    have hiK : 0 ≤ (i : Int) * (A * B) := Int.mul_nonneg (by omega) hAB
    repeat (first | refine S0 ?_ | refine S1 ?_ | refine S2 ?_ | refine S3 ?_ | refine S4 ?_ | refine S5 ?_ | refine S6 ?_ | refine S7 ?_ | refine S8 ?_ | refine S9 ?_ | refine S10 ?_ | refine S11 ?_ | refine S12 ?_ | refine S13 ?_ | refine S14 ?_ | refine S15 ?_ | refine S16 ?_ | refine S17 ?_ ?_ | refine S18 ?_ | refine S19 ?_ | refine S20 ?_ | refine S21 ?_ | refine S22 ?_ | refine S23 ?_ | refine S24 ?_ | refine S25 ?_ | refine S26 ?_ | refine S27 ?_ | refine S28 ?_ | refine S29 ?_ | refine S30 ?_ | refine S31 ?_ | refine S32 ?_ | refine S33 ?_ | refine S34 ?_ | refine S35 ?_ | refine S36 ?_ | refine S37 ?_ | refine S38 ?_ | refine S39 ?_ | refine S40 ?_ | refine S41 ?_ | refine S42 ?_ | refine S43 ?_ | refine S44 ?_ | refine S45 ?_ | refine S46 ?_ | refine S47 ?_ | refine S48 ?_ | refine S49 ?_ | refine S50 ?_ | refine S51 ?_ | refine S52 ?_ | refine S53 ?_ | refine S54 ?_ | refine S55 ?_ | refine S56 ?_ | refine S57 ?_ | refine S58 ?_ | refine S59 ?_ | refine S60 ?_ | refine S61 ?_ | refine S62 ?_ | refine S63 ?_ | refine S64 ?_ | refine S65 ?_ | refine S66 ?_ | refine S67 ?_ | refine S68 ?_ | refine S69 ?_ | refine S70 ?_ | refine S71 ?_ | refine S72 ?_ | refine S73 ?_ | refine S74 ?_ | refine S75 ?_ | refine S76 ?_ | refine S77 ?_ | refine S78 ?_ | refine S79 ?_ | refine S80 ?_ | refine S81 ?_ | refine S82 ?_ | refine S83 ?_ | refine S84 ?_ | refine S85 ?_ | refine S86 ?_ | refine S87 ?_)
    refine CW.loopS (fun j : Nat => j ≤ cb.length) (fun j => [(2, .lptr [pint la, pli ca]), (3, .lptr [pint lb, pli cb]), (4, .ptr 1 0), (5, .ref 2 0 1 n), (6, pint i), (7, pint (ca.getD i 0)), (31, pli ca), (32, pint ca.length), (33, pint i), (39, pli cb), (40, pint cb.length), (41, pint j)]) (fun j hp => hp.blk 1 = some [pint 0, .lst true 0 0 []] ∧ hp.blk 2 = some (ints (tab n (fun q => (fun e => cvn (la, ca) (lb, cb) i e + ca.getD i 0 * coT (lb, cb) j (e - la - i)) (la + lb + q))))) (fun j => cb.length - j) 0 ⟨by omega, SLx, ?_⟩ ?_
    · have e0 : tab n (fun j => cvn (la, ca) (lb, cb) i (la + lb + j)) = tab n (fun q => (fun e => cvn (la, ca) (lb, cb) i e + ca.getD i 0 * coT (lb, cb) 0 (e - la - i)) (la + lb + q)) := tab_congr (fun j _ => by simp only [coT_zero, Int.mul_zero, Int.add_zero])
      dsimp only at e0 ⊢
      rw [← e0]
      exact (by (try dsimp only); repeat' (first | exact HBx | exact SBx | refine And.intro ?_ ?_))
    clear b1 b2 t h
    rintro j t h hj ⟨b1, b2⟩
    first | simp only [updS] | simp only [updL, Nat.reduceAdd]
    by_cases hj2 : j < cb.length
    · obtain ⟨zs, hzs⟩ : ∃ zs, zs = tab n (fun q => (fun e => cvn (la, ca) (lb, cb) i e + ca.getD i 0 * coT (lb, cb) j (e - la - i)) (la + lb + q)) := ⟨_, rfl⟩
      rw [← hzs] at b2
      have hzl : zs.length = n := by rw [hzs, tab_length]
      have hq : ((((i : Int) + (j : Int)).toNat : Nat) : Int) = (la + lb + i + j) - (la + lb) := by omega
      have hq2 : la + lb + i + j < la + lb + n := by omega
      have hm : -(A * B) ≤ ca.getD i 0 * cb.getD j 0 ∧ ca.getD i 0 * cb.getD j 0 ≤ A * B := mul_bd (bA i) (getD_okc hB0 hB j)
      have hin0 : in64 (ca.getD i 0 * cb.getD j 0) := by unfold in64; omega
      have hin : in64 (zs.getD ((i : Int) + (j : Int)).toNat 0 + ca.getD i 0 * cb.getD j 0) := by
        rw [acc_get (G := fun e => cvn (la, ca) (lb, cb) i e + ca.getD i 0 * coT (lb, cb) j (e - la - i)) hzs hq hq2]
        have h3 : coT (lb, cb) j (la + lb + i + j - la - i) = 0 := if_neg (by simp only; omega)
        have h4 := cvn_bd (a := (la, ca)) (b := (lb, cb)) bA bB i (la + lb + i + j)
        simp only [h3, Int.mul_zero, Int.add_zero]
        unfold in64; omega
      have hset : zs.set ((i : Int) + (j : Int)).toNat (zs.getD ((i : Int) + (j : Int)).toNat 0 + ca.getD i 0 * cb.getD j 0) = tab n (fun q => (fun e => cvn (la, ca) (lb, cb) i e + ca.getD i 0 * coT (lb, cb) (j + 1) (e - la - i)) (la + lb + q)) :=
        acc_set (G := fun e => cvn (la, ca) (lb, cb) i e + ca.getD i 0 * coT (lb, cb) j (e - la - i)) (G' := fun e => cvn (la, ca) (lb, cb) i e + ca.getD i 0 * coT (lb, cb) (j + 1) (e - la - i)) hzs hq hq2 (fun x => by
          rw [coT_succ (lb, cb) j, Int.mul_add, ← Int.add_assoc]
          congr 1
          by_cases d : x = la + lb + i + j
          · rw [if_pos d, if_pos (by simp only; omega)]
          · rw [if_neg d, if_neg (by simp only; omega), Int.mul_zero])
      repeat (first | refine S0 ?_ | refine S1 ?_ | refine S2 ?_ | refine S3 ?_ | refine S4 ?_ | refine S5 ?_ | refine S6 ?_ | refine S7 ?_ | refine S8 ?_ | refine S9 ?_ | refine S10 ?_ | refine S11 ?_ | refine S12 ?_ | refine S13 ?_ | refine S14 ?_ | refine S15 ?_ | refine S16 ?_ | refine S17 ?_ ?_ | refine S18 ?_ | refine S19 ?_ | refine S20 ?_ | refine S21 ?_ | refine S22 ?_ | refine S23 ?_ | refine S24 ?_ | refine S25 ?_ | refine S26 ?_ | refine S27 ?_ | refine S28 ?_ | refine S29 ?_ | refine S30 ?_ | refine S31 ?_ | refine S32 ?_ | refine S33 ?_ | refine S34 ?_ | refine S35 ?_ | refine S36 ?_ | refine S37 ?_ | refine S38 ?_ | refine S39 ?_ | refine S40 ?_ | refine S41 ?_ | refine S42 ?_ | refine S43 ?_ | refine S44 ?_ | refine S45 ?_ | refine S46 ?_ | refine S47 ?_ | refine S48 ?_ | refine S49 ?_ | refine S50 ?_ | refine S51 ?_ | refine S52 ?_ | refine S53 ?_ | refine S54 ?_ | refine S55 ?_ | refine S56 ?_ | refine S57 ?_ | refine S58 ?_ | refine S59 ?_ | refine S60 ?_ | refine S61 ?_ | refine S62 ?_ | refine S63 ?_ | refine S64 ?_ | refine S65 ?_ | refine S66 ?_ | refine S67 ?_ | refine S68 ?_ | refine S69 ?_ | refine S70 ?_ | refine S71 ?_ | refine S72 ?_ | refine S73 ?_ | refine S74 ?_ | refine S75 ?_ | refine S76 ?_ | refine S77 ?_ | refine S78 ?_ | refine S79 ?_ | refine S80 ?_ | refine S81 ?_ | refine S82 ?_ | refine S83 ?_ | refine S84 ?_ | refine S85 ?_ | refine S86 ?_ | refine S87 ?_)
      refine ⟨j + 1, by omega, SLx, ?_, by omega⟩
      dsimp only at hset ⊢
      rw [← hset]
      exact (by (try dsimp only); repeat' (first | exact HBx | exact SBx | refine And.intro ?_ ?_))
    · obtain rfl : j = cb.length := by omega
      repeat (first | refine S0 ?_ | refine S1 ?_ | refine S2 ?_ | refine S3 ?_ | refine S4 ?_ | refine S5 ?_ | refine S6 ?_ | refine S7 ?_ | refine S8 ?_ | refine S9 ?_ | refine S10 ?_ | refine S11 ?_ | refine S12 ?_ | refine S13 ?_ | refine S14 ?_ | refine S15 ?_ | refine S16 ?_ | refine S17 ?_ ?_ | refine S18 ?_ | refine S19 ?_ | refine S20 ?_ | refine S21 ?_ | refine S22 ?_ | refine S23 ?_ | refine S24 ?_ | refine S25 ?_ | refine S26 ?_ | refine S27 ?_ | refine S28 ?_ | refine S29 ?_ | refine S30 ?_ | refine S31 ?_ | refine S32 ?_ | refine S33 ?_ | refine S34 ?_ | refine S35 ?_ | refine S36 ?_ | refine S37 ?_ | refine S38 ?_ | refine S39 ?_ | refine S40 ?_ | refine S41 ?_ | refine S42 ?_ | refine S43 ?_ | refine S44 ?_ | refine S45 ?_ | refine S46 ?_ | refine S47 ?_ | refine S48 ?_ | refine S49 ?_ | refine S50 ?_ | refine S51 ?_ | refine S52 ?_ | refine S53 ?_ | refine S54 ?_ | refine S55 ?_ | refine S56 ?_ | refine S57 ?_ | refine S58 ?_ | refine S59 ?_ | refine S60 ?_ | refine S61 ?_ | refine S62 ?_ | refine S63 ?_ | refine S64 ?_ | refine S65 ?_ | refine S66 ?_ | refine S67 ?_ | refine S68 ?_ | refine S69 ?_ | refine S70 ?_ | refine S71 ?_ | refine S72 ?_ | refine S73 ?_ | refine S74 ?_ | refine S75 ?_ | refine S76 ?_ | refine S77 ?_ | refine S78 ?_ | refine S79 ?_ | refine S80 ?_ | refine S81 ?_ | refine S82 ?_ | refine S83 ?_ | refine S84 ?_ | refine S85 ?_ | refine S86 ?_ | refine S87 ?_)
      refine ⟨i + 1, by omega, SLx, ?_, by omega⟩
      have e0 : tab n (fun q => (fun e => cvn (la, ca) (lb, cb) i e + ca.getD i 0 * coT (lb, cb) cb.length (e - la - i)) (la + lb + q)) = tab n (fun j => cvn (la, ca) (lb, cb) (i + 1) (la + lb + j)) := tab_congr (fun q _ => by
        rw [cvn_succ]
        simp only [coT_all (lb, cb)])
      dsimp only at e0 ⊢
      rw [← e0]
      exact (by (try dsimp only); repeat' (first | exact HBx | exact SBx | refine And.intro ?_ ?_))
  · obtain rfl : i = ca.length := by omega
    refine CW.freezeI (xs := tab n (fun j => cvn (la, ca) (lb, cb) ca.length (la + lb + j))) 5 (by rw [tab_length]; rfl) b2 ?_
    repeat (first | refine S0 ?_ | refine S1 ?_ | refine S2 ?_ | refine S3 ?_ | refine S4 ?_ | refine S5 ?_ | refine S6 ?_ | refine S7 ?_ | refine S8 ?_ | refine S9 ?_ | refine S10 ?_ | refine S11 ?_ | refine S12 ?_ | refine S13 ?_ | refine S14 ?_ | refine S15 ?_ | refine S16 ?_ | refine S17 ?_ ?_ | refine S18 ?_ | refine S19 ?_ | refine S20 ?_ | refine S21 ?_ | refine S22 ?_ | refine S23 ?_ | refine S24 ?_ | refine S25 ?_ | refine S26 ?_ | refine S27 ?_ | refine S28 ?_ | refine S29 ?_ | refine S30 ?_ | refine S31 ?_ | refine S32 ?_ | refine S33 ?_ | refine S34 ?_ | refine S35 ?_ | refine S36 ?_ | refine S37 ?_ | refine S38 ?_ | refine S39 ?_ | refine S40 ?_ | refine S41 ?_ | refine S42 ?_ | refine S43 ?_ | refine S44 ?_ | refine S45 ?_ | refine S46 ?_ | refine S47 ?_ | refine S48 ?_ | refine S49 ?_ | refine S50 ?_ | refine S51 ?_ | refine S52 ?_ | refine S53 ?_ | refine S54 ?_ | refine S55 ?_ | refine S56 ?_ | refine S57 ?_ | refine S58 ?_ | refine S59 ?_ | refine S60 ?_ | refine S61 ?_ | refine S62 ?_ | refine S63 ?_ | refine S64 ?_ | refine S65 ?_ | refine S66 ?_ | refine S67 ?_ | refine S68 ?_ | refine S69 ?_ | refine S70 ?_ | refine S71 ?_ | refine S72 ?_ | refine S73 ?_ | refine S74 ?_ | refine S75 ?_ | refine S76 ?_ | refine S77 ?_ | refine S78 ?_ | refine S79 ?_ | refine S80 ?_ | refine S81 ?_ | refine S82 ?_ | refine S83 ?_ | refine S84 ?_ | refine S85 ?_ | refine S86 ?_ | refine S87 ?_)
    refine Scall (args := [pint (la + lb), pli (tab n (fun j => cvn (la, ca) (lb, cb) ca.length (la + lb + j)))]) (trim_s (la + lb) _ (by omega) (by rw [tab_length]; omega)) ?_
    rw [co_tab (F := cvn (la, ca) (lb, cb) ca.length) (fun e he => by
      have := cvn_supp (a := (la, ca)) (b := (lb, cb)) (Nat.le_refl _) he
      simp only at this; omega)]
    repeat (first | refine S0 ?_ | refine S1 ?_ | refine S2 ?_ | refine S3 ?_ | refine S4 ?_ | refine S5 ?_ | refine S6 ?_ | refine S7 ?_ | refine S8 ?_ | refine S9 ?_ | refine S10 ?_ | refine S11 ?_ | refine S12 ?_ | refine S13 ?_ | refine S14 ?_ | refine S15 ?_ | refine S16 ?_ | refine S17 ?_ ?_ | refine S18 ?_ | refine S19 ?_ | refine S20 ?_ | refine S21 ?_ | refine S22 ?_ | refine S23 ?_ | refine S24 ?_ | refine S25 ?_ | refine S26 ?_ | refine S27 ?_ | refine S28 ?_ | refine S29 ?_ | refine S30 ?_ | refine S31 ?_ | refine S32 ?_ | refine S33 ?_ | refine S34 ?_ | refine S35 ?_ | refine S36 ?_ | refine S37 ?_ | refine S38 ?_ | refine S39 ?_ | refine S40 ?_ | refine S41 ?_ | refine S42 ?_ | refine S43 ?_ | refine S44 ?_ | refine S45 ?_ | refine S46 ?_ | refine S47 ?_ | refine S48 ?_ | refine S49 ?_ | refine S50 ?_ | refine S51 ?_ | refine S52 ?_ | refine S53 ?_ | refine S54 ?_ | refine S55 ?_ | refine S56 ?_ | refine S57 ?_ | refine S58 ?_ | refine S59 ?_ | refine S60 ?_ | refine S61 ?_ | refine S62 ?_ | refine S63 ?_ | refine S64 ?_ | refine S65 ?_ | refine S66 ?_ | refine S67 ?_ | refine S68 ?_ | refine S69 ?_ | refine S70 ?_ | refine S71 ?_ | refine S72 ?_ | refine S73 ?_ | refine S74 ?_ | refine S75 ?_ | refine S76 ?_ | refine S77 ?_ | refine S78 ?_ | refine S79 ?_ | refine S80 ?_ | refine S81 ?_ | refine S82 ?_ | refine S83 ?_ | refine S84 ?_ | refine S85 ?_ | refine S86 ?_ | refine S87 ?_)
    exact ⟨.inr rfl, FR.cell1 rfl HBx rfl rfl (.cl (by simp only [PV.cl, PV.cl.clL, pint_cl, pli_cl, Bool.and_self]))⟩
theorem okc_bd {c : List Int} (h : ∀ x ∈ c, okc x) : ∀ x ∈ c, -100000000 ≤ x ∧ x ≤ 100000000 := h
/-- what Add, Sub and Mul return -/
noncomputable def opP (p q : Po) (F : Int → Int) : PV := .tup [ppo (if (if pF p = 0 then pF q else pF p) = 0 then (if pF (cano F) = 0 then cano F else (0, [])) else (0, [])), pint (if (if pF p = 0 then pF q else pF p) = 0 then (if pF (cano F) = 0 then 0 else 2) else (if pF p = 0 then pF q else pF p))]
set_option maxHeartbeats 4000000 in
set_option maxRecDepth 100000 in
theorem mul_s (p q : Po) : SC Try.prog 11 [ppo p, ppo q] (opP p q (pmul p q)) := by
  have hb := both_s p q
  have key : (if pF p = 0 then pF q else pF p) = 0 → SC Try.prog 41 [ppo p, ppo q] (ppo (cano (pmul p q))) := fun h => by
    split at h
    · rename_i h1
      obtain ⟨a1, a2, a3, a4⟩ := pF_ok h1
      obtain ⟨b1, b2, b3, b4⟩ := pF_ok h
      exact times_s p q 100000000 100000000 (by omega) (by omega) (by omega) (by omega) (by omega) (by omega) a4 b4 (by omega)
    · rename_i h1; exact absurd h h1
  unfold opP
  generalize (if pF p = 0 then pF q else pF p) = E at hb key ⊢
  have hf := fit_s (cano (pmul p q))
  generalize cano (pmul p q) = r at hf key ⊢
  obtain ⟨l, c⟩ := p
  obtain ⟨l2, c2⟩ := q
  obtain ⟨l3, c3⟩ := r
  refine SC.go {} tok mixed Try.func11 rfl rfl Try.ntmps11 rfl rfl (by kernel_rfl) ?_
  first | simp only [updS] | simp only [updL, Nat.reduceAdd]
  repeat (first | refine S0 ?_ | refine S1 ?_ | refine S2 ?_ | refine S3 ?_ | refine S4 ?_ | refine S5 ?_ | refine S6 ?_ | refine S7 ?_ | refine S8 ?_ | refine S9 ?_ | refine S10 ?_ | refine S11 ?_ | refine S12 ?_ | refine S13 ?_ | refine S14 ?_ | refine S15 ?_ | refine S16 ?_ | refine S17 ?_ ?_ | refine S18 ?_ | refine S19 ?_ | refine S20 ?_ | refine S21 ?_ | refine S22 ?_ | refine S23 ?_ | refine S24 ?_ | refine S25 ?_ | refine S26 ?_ | refine S27 ?_ | refine S28 ?_ | refine S29 ?_ | refine S30 ?_ | refine S31 ?_ | refine S32 ?_ | refine S33 ?_ | refine S34 ?_ | refine S35 ?_ | refine S36 ?_ | refine S37 ?_ | refine S38 ?_ | refine S39 ?_ | refine S40 ?_ | refine S41 ?_ | refine S42 ?_ | refine S43 ?_ | refine S44 ?_ | refine S45 ?_ | refine S46 ?_ | refine S47 ?_ | refine S48 ?_ | refine S49 ?_ | refine S50 ?_ | refine S51 ?_ | refine S52 ?_ | refine S53 ?_ | refine S54 ?_ | refine S55 ?_ | refine S56 ?_ | refine S57 ?_ | refine S58 ?_ | refine S59 ?_ | refine S60 ?_ | refine S61 ?_ | refine S62 ?_ | refine S63 ?_ | refine S64 ?_ | refine S65 ?_ | refine S66 ?_ | refine S67 ?_ | refine S68 ?_ | refine S69 ?_ | refine S70 ?_ | refine S71 ?_ | refine S72 ?_ | refine S73 ?_ | refine S74 ?_ | refine S75 ?_ | refine S76 ?_ | refine S77 ?_ | refine S78 ?_ | refine S79 ?_ | refine S80 ?_ | refine S81 ?_ | refine S82 ?_ | refine S83 ?_ | refine S84 ?_ | refine S85 ?_ | refine S86 ?_ | refine S87 ?_)
  refine Scall (args := [ppo (l, c), ppo (l2, c2)]) hb ?_
  by_cases h0 : E = 0
  · rw [if_pos h0, if_pos h0]
    repeat (first | refine S0 ?_ | refine S1 ?_ | refine S2 ?_ | refine S3 ?_ | refine S4 ?_ | refine S5 ?_ | refine S6 ?_ | refine S7 ?_ | refine S8 ?_ | refine S9 ?_ | refine S10 ?_ | refine S11 ?_ | refine S12 ?_ | refine S13 ?_ | refine S14 ?_ | refine S15 ?_ | refine S16 ?_ | refine S17 ?_ ?_ | refine S18 ?_ | refine S19 ?_ | refine S20 ?_ | refine S21 ?_ | refine S22 ?_ | refine S23 ?_ | refine S24 ?_ | refine S25 ?_ | refine S26 ?_ | refine S27 ?_ | refine S28 ?_ | refine S29 ?_ | refine S30 ?_ | refine S31 ?_ | refine S32 ?_ | refine S33 ?_ | refine S34 ?_ | refine S35 ?_ | refine S36 ?_ | refine S37 ?_ | refine S38 ?_ | refine S39 ?_ | refine S40 ?_ | refine S41 ?_ | refine S42 ?_ | refine S43 ?_ | refine S44 ?_ | refine S45 ?_ | refine S46 ?_ | refine S47 ?_ | refine S48 ?_ | refine S49 ?_ | refine S50 ?_ | refine S51 ?_ | refine S52 ?_ | refine S53 ?_ | refine S54 ?_ | refine S55 ?_ | refine S56 ?_ | refine S57 ?_ | refine S58 ?_ | refine S59 ?_ | refine S60 ?_ | refine S61 ?_ | refine S62 ?_ | refine S63 ?_ | refine S64 ?_ | refine S65 ?_ | refine S66 ?_ | refine S67 ?_ | refine S68 ?_ | refine S69 ?_ | refine S70 ?_ | refine S71 ?_ | refine S72 ?_ | refine S73 ?_ | refine S74 ?_ | refine S75 ?_ | refine S76 ?_ | refine S77 ?_ | refine S78 ?_ | refine S79 ?_ | refine S80 ?_ | refine S81 ?_ | refine S82 ?_ | refine S83 ?_ | refine S84 ?_ | refine S85 ?_ | refine S86 ?_ | refine S87 ?_)
    refine Scall (args := [ppo (l, c), ppo (l2, c2)]) (key h0) ?_
    repeat (first | refine S0 ?_ | refine S1 ?_ | refine S2 ?_ | refine S3 ?_ | refine S4 ?_ | refine S5 ?_ | refine S6 ?_ | refine S7 ?_ | refine S8 ?_ | refine S9 ?_ | refine S10 ?_ | refine S11 ?_ | refine S12 ?_ | refine S13 ?_ | refine S14 ?_ | refine S15 ?_ | refine S16 ?_ | refine S17 ?_ ?_ | refine S18 ?_ | refine S19 ?_ | refine S20 ?_ | refine S21 ?_ | refine S22 ?_ | refine S23 ?_ | refine S24 ?_ | refine S25 ?_ | refine S26 ?_ | refine S27 ?_ | refine S28 ?_ | refine S29 ?_ | refine S30 ?_ | refine S31 ?_ | refine S32 ?_ | refine S33 ?_ | refine S34 ?_ | refine S35 ?_ | refine S36 ?_ | refine S37 ?_ | refine S38 ?_ | refine S39 ?_ | refine S40 ?_ | refine S41 ?_ | refine S42 ?_ | refine S43 ?_ | refine S44 ?_ | refine S45 ?_ | refine S46 ?_ | refine S47 ?_ | refine S48 ?_ | refine S49 ?_ | refine S50 ?_ | refine S51 ?_ | refine S52 ?_ | refine S53 ?_ | refine S54 ?_ | refine S55 ?_ | refine S56 ?_ | refine S57 ?_ | refine S58 ?_ | refine S59 ?_ | refine S60 ?_ | refine S61 ?_ | refine S62 ?_ | refine S63 ?_ | refine S64 ?_ | refine S65 ?_ | refine S66 ?_ | refine S67 ?_ | refine S68 ?_ | refine S69 ?_ | refine S70 ?_ | refine S71 ?_ | refine S72 ?_ | refine S73 ?_ | refine S74 ?_ | refine S75 ?_ | refine S76 ?_ | refine S77 ?_ | refine S78 ?_ | refine S79 ?_ | refine S80 ?_ | refine S81 ?_ | refine S82 ?_ | refine S83 ?_ | refine S84 ?_ | refine S85 ?_ | refine S86 ?_ | refine S87 ?_)
    refine Scall (args := [ppo (l3, c3)]) hf ?_
    unfold fitP
    repeat (first | refine S0 ?_ | refine S1 ?_ | refine S2 ?_ | refine S3 ?_ | refine S4 ?_ | refine S5 ?_ | refine S6 ?_ | refine S7 ?_ | refine S8 ?_ | refine S9 ?_ | refine S10 ?_ | refine S11 ?_ | refine S12 ?_ | refine S13 ?_ | refine S14 ?_ | refine S15 ?_ | refine S16 ?_ | refine S17 ?_ ?_ | refine S18 ?_ | refine S19 ?_ | refine S20 ?_ | refine S21 ?_ | refine S22 ?_ | refine S23 ?_ | refine S24 ?_ | refine S25 ?_ | refine S26 ?_ | refine S27 ?_ | refine S28 ?_ | refine S29 ?_ | refine S30 ?_ | refine S31 ?_ | refine S32 ?_ | refine S33 ?_ | refine S34 ?_ | refine S35 ?_ | refine S36 ?_ | refine S37 ?_ | refine S38 ?_ | refine S39 ?_ | refine S40 ?_ | refine S41 ?_ | refine S42 ?_ | refine S43 ?_ | refine S44 ?_ | refine S45 ?_ | refine S46 ?_ | refine S47 ?_ | refine S48 ?_ | refine S49 ?_ | refine S50 ?_ | refine S51 ?_ | refine S52 ?_ | refine S53 ?_ | refine S54 ?_ | refine S55 ?_ | refine S56 ?_ | refine S57 ?_ | refine S58 ?_ | refine S59 ?_ | refine S60 ?_ | refine S61 ?_ | refine S62 ?_ | refine S63 ?_ | refine S64 ?_ | refine S65 ?_ | refine S66 ?_ | refine S67 ?_ | refine S68 ?_ | refine S69 ?_ | refine S70 ?_ | refine S71 ?_ | refine S72 ?_ | refine S73 ?_ | refine S74 ?_ | refine S75 ?_ | refine S76 ?_ | refine S77 ?_ | refine S78 ?_ | refine S79 ?_ | refine S80 ?_ | refine S81 ?_ | refine S82 ?_ | refine S83 ?_ | refine S84 ?_ | refine S85 ?_ | refine S86 ?_ | refine S87 ?_)
    refine ⟨.inr rfl, FR.cellTmp rfl HBx rfl rfl rfl (Fz.pair ?_ (.cl rfl))⟩
    exact .cl (by simp only [PV.cl, PV.cl.clL, pint_cl, pli_cl, Bool.and_self])
  · rw [if_neg h0, if_neg h0]
    repeat (first | refine S0 ?_ | refine S1 ?_ | refine S2 ?_ | refine S3 ?_ | refine S4 ?_ | refine S5 ?_ | refine S6 ?_ | refine S7 ?_ | refine S8 ?_ | refine S9 ?_ | refine S10 ?_ | refine S11 ?_ | refine S12 ?_ | refine S13 ?_ | refine S14 ?_ | refine S15 ?_ | refine S16 ?_ | refine S17 ?_ ?_ | refine S18 ?_ | refine S19 ?_ | refine S20 ?_ | refine S21 ?_ | refine S22 ?_ | refine S23 ?_ | refine S24 ?_ | refine S25 ?_ | refine S26 ?_ | refine S27 ?_ | refine S28 ?_ | refine S29 ?_ | refine S30 ?_ | refine S31 ?_ | refine S32 ?_ | refine S33 ?_ | refine S34 ?_ | refine S35 ?_ | refine S36 ?_ | refine S37 ?_ | refine S38 ?_ | refine S39 ?_ | refine S40 ?_ | refine S41 ?_ | refine S42 ?_ | refine S43 ?_ | refine S44 ?_ | refine S45 ?_ | refine S46 ?_ | refine S47 ?_ | refine S48 ?_ | refine S49 ?_ | refine S50 ?_ | refine S51 ?_ | refine S52 ?_ | refine S53 ?_ | refine S54 ?_ | refine S55 ?_ | refine S56 ?_ | refine S57 ?_ | refine S58 ?_ | refine S59 ?_ | refine S60 ?_ | refine S61 ?_ | refine S62 ?_ | refine S63 ?_ | refine S64 ?_ | refine S65 ?_ | refine S66 ?_ | refine S67 ?_ | refine S68 ?_ | refine S69 ?_ | refine S70 ?_ | refine S71 ?_ | refine S72 ?_ | refine S73 ?_ | refine S74 ?_ | refine S75 ?_ | refine S76 ?_ | refine S77 ?_ | refine S78 ?_ | refine S79 ?_ | refine S80 ?_ | refine S81 ?_ | refine S82 ?_ | refine S83 ?_ | refine S84 ?_ | refine S85 ?_ | refine S86 ?_ | refine S87 ?_)
    exact ⟨.inr rfl, FR.cellTmp rfl HBx rfl rfl rfl (Fz.pair (.nrm rfl) (.cl rfl))⟩
end Go.Proofs.Ytehilackpaejnaa
