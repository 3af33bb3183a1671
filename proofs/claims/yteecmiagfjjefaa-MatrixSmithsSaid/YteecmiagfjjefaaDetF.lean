/- timbref1.Determinant and intmatrix.Det. No condition of its own. -/
import Derived.Test.YteecmiagfjjefaaPermuF
import Derived.Test.YteecmiagfjjefaaMatF
set_option linter.unusedVariables false
set_option linter.unusedSimpArgs false
namespace Go.Proofs.Yteecmiagfjjefaa
open Go.RowKit

/-- the part of the sum that is made -/
def part (m : List (List Int)) (n : Nat) (ps : List (List Nat)) : Int := sm ps fun s => sgn (invs s) * prd (ent m) (List.range n) s
/-- what is in the variable sum -/
def valD (m : List (List Int)) (n : Nat) (ps : List (List Nat)) : List PV := [pint (IntKind.i64.wrap (part m n ps))]
theorem wrap_add (a b : Int) : IntKind.i64.wrap (IntKind.i64.wrap a + b) = IntKind.i64.wrap (a + b) := by
  rw [IntKind.wrap_i64, IntKind.wrap_i64, IntKind.wrap_i64]; omega
section
variable {P : Program} {T : TypeId → TI} {M : Hn} {cl : Oper → Cls} {ops : Array Oper} {l : List Oper} {t : Nat → PV} {h : HP} {K : AS → Prop} {d : Nat} {ty : TypeId} {pos : String} {aft : Array Edge}
/-- x + y, whatever it is -/
theorem AW.addW {tt t2 : TypeId} {x y : Operand} {a b : Int} (hx : evA t x = .sc (.int .i64 a)) (hy : evA t y = .sc (.int .i64 b)) (hk : AW P T M cl ops l ⟨upd t d (.sc (.int .i64 (IntKind.i64.wrap (a + b)))), h⟩ K) : AW P T M cl ops (⟨some d, .binOp .add tt x y t2, ty, pos, aft, none⟩ :: l) ⟨t, h⟩ K :=
  AW.binf (vx := .int .i64 a) (vy := .int .i64 b) (by rw [hx]; rfl) (by rw [hy]; rfl) (fun w => by simp [eqGuard, binOp, Op.intArith]) hk
end
/-- the product that is made -/
def ppr (M : Nat → Nat → Int) (q : List Nat) : Nat → Int
  | 0 => 1
  | i + 1 => ppr M q i * M i (q.getD i 0)
theorem prd_snoc (M : Nat → Nat → Int) (r c : Nat) : ∀ (rs q : List Nat), rs.length = q.length → prd M (rs ++ [r]) (q ++ [c]) = prd M rs q * M r c
  | [], [], _ => by simp [prd]
  | a :: rs, b :: q, h => by
    simp only [List.cons_append, prd]
    rw [prd_snoc M r c rs q (by simpa using h), Int.mul_assoc]
  | [], b :: q, h => by simp at h
  | a :: rs, [], h => by simp at h
theorem prd_ppr (M : Nat → Nat → Int) (q : List Nat) : ∀ i, i ≤ q.length → prd M (List.range i) (q.take i) = ppr M q i
  | 0, _ => by simp [prd, ppr]
  | i + 1, h => by
    have e : q.take (i + 1) = q.take i ++ [q.getD i 0] := by
      rw [List.take_succ_eq_append_getElem (show i < q.length by omega)]
      congr 2
      simp [List.getD, show i < q.length by omega]
    rw [e, List.range_succ, prd_snoc M i _ _ _ (by simp; omega), prd_ppr M q i (by omega)]; rfl
def p100 : Nat → Int
  | 0 => 1
  | i + 1 => p100 i * 100
theorem p100_pos : ∀ i, 0 ≤ p100 i
  | 0 => by decide
  | i + 1 => by have := p100_pos i; show 0 ≤ p100 i * 100; omega
theorem p100_mono : ∀ i, p100 i ≤ p100 (i + 1) := fun i => by have := p100_pos i; show p100 i ≤ p100 i * 100; omega
theorem p100_6 {i : Nat} (h : i ≤ 6) : p100 i ≤ 1000000000000 := by
  match i, h with
  | 0, _ => decide
  | 1, _ => decide
  | 2, _ => decide
  | 3, _ => decide
  | 4, _ => decide
  | 5, _ => decide
  | 6, _ => decide
theorem ppr_bd {M : Nat → Nat → Int} (hM : ∀ r c, -100 ≤ M r c ∧ M r c ≤ 100) (q : List Nat) : ∀ i, -(p100 i) ≤ ppr M q i ∧ ppr M q i ≤ p100 i
  | 0 => by simp [ppr, p100]
  | i + 1 => by
    have h1 := ppr_bd hM q i
    exact mul_bd h1 (hM i (q.getD i 0)) (p100_pos i) (by decide)
theorem sgn_mul_bd (a : Nat) {x B : Int} (h : -B ≤ x ∧ x ≤ B) : -B ≤ sgn a * x ∧ sgn a * x ≤ B := by
  unfold sgn; split <;> omega
theorem pnat_get (q : List Nat) (i : Nat) : (pnat q).getD i 0 = ((q.getD i 0 : Nat) : Int) := by
  unfold pnat
  by_cases h : i < q.length
  · simp [List.getD, h]
  · simp [List.getD, h]
set_option maxHeartbeats 4000000 in
set_option maxRecDepth 100000 in
theorem parity_q {xs : List Int} {f : Nat → Nat} (hv : ∀ i, xs.getD i 0 = (f i : Int)) (hf : ∀ i, f i ≤ 1000) (h9 : xs.length ≤ 1000) : SC Try.prog 21 [pli xs] (pint (sgn (ivc f xs.length))) := by
  refine SC.go {} tok mixed Try.func21 rfl rfl Try.ntmps21 rfl rfl (by kernel_rfl) ?_
  first | simp only [updS] | simp only [updL, Nat.reduceAdd]
  repeat (first | refine S0 ?_ | refine S1 ?_ | refine S2 ?_ | refine S3 ?_ | refine S4 ?_ | refine S5 ?_ | refine S6 ?_ | refine S7 ?_ | refine S8 ?_ | refine S9 ?_ | refine S10 ?_ | refine S11 ?_ | refine S12 ?_ | refine S13 ?_ | refine S14 ?_ | refine S15 ?_ | refine S16 ?_ | refine S17 ?_ ?_ | refine S18 ?_ | refine S19 ?_ | refine S20 ?_ | refine S21 ?_ | refine S22 ?_ | refine S23 ?_ | refine S24 ?_ | refine S25 ?_ | refine S26 ?_ | refine S27 ?_ | refine S28 ?_ | refine S29 ?_ | refine S30 ?_ | refine S31 ?_ | refine S32 ?_ | refine S33 ?_ | refine S34 ?_ | refine S35 ?_ | refine S36 ?_ | refine S37 ?_ | refine S38 ?_ | refine S39 ?_ | refine S40 ?_ | refine S41 ?_ | refine S42 ?_ | refine S43 ?_ | refine S44 ?_ | refine S45 ?_ | refine S46 ?_ | refine S47 ?_ | refine S48 ?_ | refine S49 ?_ | refine S50 ?_ | refine S51 ?_ | refine S52 ?_ | refine S53 ?_ | refine S54 ?_ | refine S55 ?_ | refine S56 ?_ | refine S57 ?_ | refine S58 ?_ | refine S59 ?_ | refine S60 ?_ | refine S61 ?_ | refine S62 ?_ | refine S63 ?_ | refine S64 ?_ | refine S65 ?_ | refine S66 ?_ | refine S67 ?_ | refine S68 ?_ | refine S69 ?_ | refine S70 ?_ | refine S71 ?_ | refine S72 ?_ | refine S73 ?_ | refine S74 ?_ | refine S75 ?_ | refine S76 ?_ | refine S77 ?_ | refine S78 ?_ | refine S79 ?_ | refine S80 ?_ | refine S81 ?_ | refine S82 ?_ | refine S83 ?_ | refine S84 ?_ | refine S85 ?_ | refine S86 ?_ | refine S87 ?_)
  refine CW.loopS (fun i : Nat => i ≤ xs.length) (fun i => [(0, pli xs), (3, pint (sgn (ivc f i))), (7, pint xs.length), (8, pint i)]) (fun _ _ => True) (fun i => xs.length - i) 0 ⟨Nat.zero_le _, SLx, trivial⟩ ?_
  rintro i t h hi _
  first | simp only [updS] | simp only [updL, Nat.reduceAdd]
  by_cases hlt : i < xs.length
  · repeat (first | refine S0 ?_ | refine S1 ?_ | refine S2 ?_ | refine S3 ?_ | refine S4 ?_ | refine S5 ?_ | refine S6 ?_ | refine S7 ?_ | refine S8 ?_ | refine S9 ?_ | refine S10 ?_ | refine S11 ?_ | refine S12 ?_ | refine S13 ?_ | refine S14 ?_ | refine S15 ?_ | refine S16 ?_ | refine S17 ?_ ?_ | refine S18 ?_ | refine S19 ?_ | refine S20 ?_ | refine S21 ?_ | refine S22 ?_ | refine S23 ?_ | refine S24 ?_ | refine S25 ?_ | refine S26 ?_ | refine S27 ?_ | refine S28 ?_ | refine S29 ?_ | refine S30 ?_ | refine S31 ?_ | refine S32 ?_ | refine S33 ?_ | refine S34 ?_ | refine S35 ?_ | refine S36 ?_ | refine S37 ?_ | refine S38 ?_ | refine S39 ?_ | refine S40 ?_ | refine S41 ?_ | refine S42 ?_ | refine S43 ?_ | refine S44 ?_ | refine S45 ?_ | refine S46 ?_ | refine S47 ?_ | refine S48 ?_ | refine S49 ?_ | refine S50 ?_ | refine S51 ?_ | refine S52 ?_ | refine S53 ?_ | refine S54 ?_ | refine S55 ?_ | refine S56 ?_ | refine S57 ?_ | refine S58 ?_ | refine S59 ?_ | refine S60 ?_ | refine S61 ?_ | refine S62 ?_ | refine S63 ?_ | refine S64 ?_ | refine S65 ?_ | refine S66 ?_ | refine S67 ?_ | refine S68 ?_ | refine S69 ?_ | refine S70 ?_ | refine S71 ?_ | refine S72 ?_ | refine S73 ?_ | refine S74 ?_ | refine S75 ?_ | refine S76 ?_ | refine S77 ?_ | refine S78 ?_ | refine S79 ?_ | refine S80 ?_ | refine S81 ?_ | refine S82 ?_ | refine S83 ?_ | refine S84 ?_ | refine S85 ?_ | refine S86 ?_ | refine S87 ?_)
    refine CW.loopS (fun k : Nat => k ≤ i) (fun k => [(0, pli xs), (3, pint (sgn (ivc f i + cnt (fun j => decide (f i < f j)) k))), (4, pint i), (7, pint xs.length), (8, pint i), (11, pint i), (12, pint k)]) (fun _ _ => True) (fun k => i - k) 0 ⟨Nat.zero_le _, SLx, trivial⟩ ?_
    clear t h
    rintro k t h hk _
    first | simp only [updS] | simp only [updL, Nat.reduceAdd]
    by_cases hk2 : k < i
    · have v1 := hv i
      have v2 := hv k
      have b1 := hf i
      have b2 := hf k
      have hc : cnt (fun j => decide (f i < f j)) (k + 1) = cnt (fun j => decide (f i < f j)) k + (if decide (f i < f k) = true then 1 else 0) := rfl
      have hb := sgn_bd (ivc f i + cnt (fun j => decide (f i < f j)) k)
      by_cases hgt : xs.getD i 0 < xs.getD k 0
      · rw [if_pos (decide_eq_true (by omega))] at hc
        repeat (first | refine S0 ?_ | refine S1 ?_ | refine S2 ?_ | refine S3 ?_ | refine S4 ?_ | refine S5 ?_ | refine S6 ?_ | refine S7 ?_ | refine S8 ?_ | refine S9 ?_ | refine S10 ?_ | refine S11 ?_ | refine S12 ?_ | refine S13 ?_ | refine S14 ?_ | refine S15 ?_ | refine S16 ?_ | refine S17 ?_ ?_ | refine S18 ?_ | refine S19 ?_ | refine S20 ?_ | refine S21 ?_ | refine S22 ?_ | refine S23 ?_ | refine S24 ?_ | refine S25 ?_ | refine S26 ?_ | refine S27 ?_ | refine S28 ?_ | refine S29 ?_ | refine S30 ?_ | refine S31 ?_ | refine S32 ?_ | refine S33 ?_ | refine S34 ?_ | refine S35 ?_ | refine S36 ?_ | refine S37 ?_ | refine S38 ?_ | refine S39 ?_ | refine S40 ?_ | refine S41 ?_ | refine S42 ?_ | refine S43 ?_ | refine S44 ?_ | refine S45 ?_ | refine S46 ?_ | refine S47 ?_ | refine S48 ?_ | refine S49 ?_ | refine S50 ?_ | refine S51 ?_ | refine S52 ?_ | refine S53 ?_ | refine S54 ?_ | refine S55 ?_ | refine S56 ?_ | refine S57 ?_ | refine S58 ?_ | refine S59 ?_ | refine S60 ?_ | refine S61 ?_ | refine S62 ?_ | refine S63 ?_ | refine S64 ?_ | refine S65 ?_ | refine S66 ?_ | refine S67 ?_ | refine S68 ?_ | refine S69 ?_ | refine S70 ?_ | refine S71 ?_ | refine S72 ?_ | refine S73 ?_ | refine S74 ?_ | refine S75 ?_ | refine S76 ?_ | refine S77 ?_ | refine S78 ?_ | refine S79 ?_ | refine S80 ?_ | refine S81 ?_ | refine S82 ?_ | refine S83 ?_ | refine S84 ?_ | refine S85 ?_ | refine S86 ?_ | refine S87 ?_)
        refine ⟨k + 1, by omega, ?_, trivial, by omega⟩
        rw [hc, ← Nat.add_assoc, sgn_succ]
        exact SLx
      · rw [if_neg (by simp; omega)] at hc
        repeat (first | refine S0 ?_ | refine S1 ?_ | refine S2 ?_ | refine S3 ?_ | refine S4 ?_ | refine S5 ?_ | refine S6 ?_ | refine S7 ?_ | refine S8 ?_ | refine S9 ?_ | refine S10 ?_ | refine S11 ?_ | refine S12 ?_ | refine S13 ?_ | refine S14 ?_ | refine S15 ?_ | refine S16 ?_ | refine S17 ?_ ?_ | refine S18 ?_ | refine S19 ?_ | refine S20 ?_ | refine S21 ?_ | refine S22 ?_ | refine S23 ?_ | refine S24 ?_ | refine S25 ?_ | refine S26 ?_ | refine S27 ?_ | refine S28 ?_ | refine S29 ?_ | refine S30 ?_ | refine S31 ?_ | refine S32 ?_ | refine S33 ?_ | refine S34 ?_ | refine S35 ?_ | refine S36 ?_ | refine S37 ?_ | refine S38 ?_ | refine S39 ?_ | refine S40 ?_ | refine S41 ?_ | refine S42 ?_ | refine S43 ?_ | refine S44 ?_ | refine S45 ?_ | refine S46 ?_ | refine S47 ?_ | refine S48 ?_ | refine S49 ?_ | refine S50 ?_ | refine S51 ?_ | refine S52 ?_ | refine S53 ?_ | refine S54 ?_ | refine S55 ?_ | refine S56 ?_ | refine S57 ?_ | refine S58 ?_ | refine S59 ?_ | refine S60 ?_ | refine S61 ?_ | refine S62 ?_ | refine S63 ?_ | refine S64 ?_ | refine S65 ?_ | refine S66 ?_ | refine S67 ?_ | refine S68 ?_ | refine S69 ?_ | refine S70 ?_ | refine S71 ?_ | refine S72 ?_ | refine S73 ?_ | refine S74 ?_ | refine S75 ?_ | refine S76 ?_ | refine S77 ?_ | refine S78 ?_ | refine S79 ?_ | refine S80 ?_ | refine S81 ?_ | refine S82 ?_ | refine S83 ?_ | refine S84 ?_ | refine S85 ?_ | refine S86 ?_ | refine S87 ?_)
        refine ⟨k + 1, by omega, ?_, trivial, by omega⟩
        rw [hc, Nat.add_zero]
        exact SLx
    · obtain rfl : k = i := by omega
      repeat (first | refine S0 ?_ | refine S1 ?_ | refine S2 ?_ | refine S3 ?_ | refine S4 ?_ | refine S5 ?_ | refine S6 ?_ | refine S7 ?_ | refine S8 ?_ | refine S9 ?_ | refine S10 ?_ | refine S11 ?_ | refine S12 ?_ | refine S13 ?_ | refine S14 ?_ | refine S15 ?_ | refine S16 ?_ | refine S17 ?_ ?_ | refine S18 ?_ | refine S19 ?_ | refine S20 ?_ | refine S21 ?_ | refine S22 ?_ | refine S23 ?_ | refine S24 ?_ | refine S25 ?_ | refine S26 ?_ | refine S27 ?_ | refine S28 ?_ | refine S29 ?_ | refine S30 ?_ | refine S31 ?_ | refine S32 ?_ | refine S33 ?_ | refine S34 ?_ | refine S35 ?_ | refine S36 ?_ | refine S37 ?_ | refine S38 ?_ | refine S39 ?_ | refine S40 ?_ | refine S41 ?_ | refine S42 ?_ | refine S43 ?_ | refine S44 ?_ | refine S45 ?_ | refine S46 ?_ | refine S47 ?_ | refine S48 ?_ | refine S49 ?_ | refine S50 ?_ | refine S51 ?_ | refine S52 ?_ | refine S53 ?_ | refine S54 ?_ | refine S55 ?_ | refine S56 ?_ | refine S57 ?_ | refine S58 ?_ | refine S59 ?_ | refine S60 ?_ | refine S61 ?_ | refine S62 ?_ | refine S63 ?_ | refine S64 ?_ | refine S65 ?_ | refine S66 ?_ | refine S67 ?_ | refine S68 ?_ | refine S69 ?_ | refine S70 ?_ | refine S71 ?_ | refine S72 ?_ | refine S73 ?_ | refine S74 ?_ | refine S75 ?_ | refine S76 ?_ | refine S77 ?_ | refine S78 ?_ | refine S79 ?_ | refine S80 ?_ | refine S81 ?_ | refine S82 ?_ | refine S83 ?_ | refine S84 ?_ | refine S85 ?_ | refine S86 ?_ | refine S87 ?_)
      exact ⟨k + 1, by omega, SLx, trivial, by omega⟩
  · obtain rfl : i = xs.length := by omega
    repeat (first | refine S0 ?_ | refine S1 ?_ | refine S2 ?_ | refine S3 ?_ | refine S4 ?_ | refine S5 ?_ | refine S6 ?_ | refine S7 ?_ | refine S8 ?_ | refine S9 ?_ | refine S10 ?_ | refine S11 ?_ | refine S12 ?_ | refine S13 ?_ | refine S14 ?_ | refine S15 ?_ | refine S16 ?_ | refine S17 ?_ ?_ | refine S18 ?_ | refine S19 ?_ | refine S20 ?_ | refine S21 ?_ | refine S22 ?_ | refine S23 ?_ | refine S24 ?_ | refine S25 ?_ | refine S26 ?_ | refine S27 ?_ | refine S28 ?_ | refine S29 ?_ | refine S30 ?_ | refine S31 ?_ | refine S32 ?_ | refine S33 ?_ | refine S34 ?_ | refine S35 ?_ | refine S36 ?_ | refine S37 ?_ | refine S38 ?_ | refine S39 ?_ | refine S40 ?_ | refine S41 ?_ | refine S42 ?_ | refine S43 ?_ | refine S44 ?_ | refine S45 ?_ | refine S46 ?_ | refine S47 ?_ | refine S48 ?_ | refine S49 ?_ | refine S50 ?_ | refine S51 ?_ | refine S52 ?_ | refine S53 ?_ | refine S54 ?_ | refine S55 ?_ | refine S56 ?_ | refine S57 ?_ | refine S58 ?_ | refine S59 ?_ | refine S60 ?_ | refine S61 ?_ | refine S62 ?_ | refine S63 ?_ | refine S64 ?_ | refine S65 ?_ | refine S66 ?_ | refine S67 ?_ | refine S68 ?_ | refine S69 ?_ | refine S70 ?_ | refine S71 ?_ | refine S72 ?_ | refine S73 ?_ | refine S74 ?_ | refine S75 ?_ | refine S76 ?_ | refine S77 ?_ | refine S78 ?_ | refine S79 ?_ | refine S80 ?_ | refine S81 ?_ | refine S82 ?_ | refine S83 ?_ | refine S84 ?_ | refine S85 ?_ | refine S86 ?_ | refine S87 ?_)
    exact ⟨.inr rfl, .cl rfl⟩
theorem parity_n {n : Nat} {q : List Nat} (hn : n ≤ 6) (h : Good n q) : SC Try.prog 21 [pli (pnat q)] (pint (sgn (invs q))) := by
  have h1 := h.len
  have hg : ∀ i, q.getD i 0 ≤ 1000 := fun i => by
    by_cases c : i < q.length
    · have := h.lt (q.getD i 0) (by rw [show q.getD i 0 = q[i] by simp [List.getD, c]]; exact List.getElem_mem c)
      omega
    · simp [List.getD, c]
  have := parity_q (xs := pnat q) (f := fun i => q.getD i 0) (pnat_get q) hg (by rw [pnat_len]; omega)
  rw [pnat_len, ← invs_ivc q q.length (Nat.le_refl _), List.take_length] at this
  exact this
set_option maxHeartbeats 16000000 in
set_option maxRecDepth 100000 in
theorem det1_e {m : List (List Int)} {n T0 : Nat} (hM : Mx m n n) (hT : T0 % 2 = 1) : Each n T0 20 [.lptr [plls m], .ptr T0 0] (valD m n) := by
  intro ps q h hT2 hb hq
  change h.blk T0 = some [pint (IntKind.i64.wrap (part m n ps))] at hb
  refine SChE.go {} tok mixed Try.func20 rfl rfl Try.ntmps20 rfl rfl (by kernel_rfl) (fun hw => ?_)
  first | simp only [updS] | simp only [updL, Nat.reduceAdd]
  have hql : (pnat q).length = n := by rw [pnat_len]; exact hq.len
  have hn6 := hM.hn
  repeat (first | refine S0 ?_ | refine S1 ?_ | refine S2 ?_ | refine S3 ?_ | refine S4 ?_ | refine S5 ?_ | refine S6 ?_ | refine S7 ?_ | refine S8 ?_ | refine S9 ?_ | refine S10 ?_ | refine S11 ?_ | refine S12 ?_ | refine S13 ?_ | refine S14 ?_ | refine S15 ?_ | refine S16 ?_ | refine S17 ?_ ?_ | refine S18 ?_ | refine S19 ?_ | refine S20 ?_ | refine S21 ?_ | refine S22 ?_ | refine S23 ?_ | refine S24 ?_ | refine S25 ?_ | refine S26 ?_ | refine S27 ?_ | refine S28 ?_ | refine S29 ?_ | refine S30 ?_ | refine S31 ?_ | refine S32 ?_ | refine S33 ?_ | refine S34 ?_ | refine S35 ?_ | refine S36 ?_ | refine S37 ?_ | refine S38 ?_ | refine S39 ?_ | refine S40 ?_ | refine S41 ?_ | refine S42 ?_ | refine S43 ?_ | refine S44 ?_ | refine S45 ?_ | refine S46 ?_ | refine S47 ?_ | refine S48 ?_ | refine S49 ?_ | refine S50 ?_ | refine S51 ?_ | refine S52 ?_ | refine S53 ?_ | refine S54 ?_ | refine S55 ?_ | refine S56 ?_ | refine S57 ?_ | refine S58 ?_ | refine S59 ?_ | refine S60 ?_ | refine S61 ?_ | refine S62 ?_ | refine S63 ?_ | refine S64 ?_ | refine S65 ?_ | refine S66 ?_ | refine S67 ?_ | refine S68 ?_ | refine S69 ?_ | refine S70 ?_ | refine S71 ?_ | refine S72 ?_ | refine S73 ?_ | refine S74 ?_ | refine S75 ?_ | refine S76 ?_ | refine S77 ?_ | refine S78 ?_ | refine S79 ?_ | refine S80 ?_ | refine S81 ?_ | refine S82 ?_ | refine S83 ?_ | refine S84 ?_ | refine S85 ?_ | refine S86 ?_ | refine S87 ?_)
  refine Scall (args := [pli (pnat q)]) (parity_n hM.hn hq) ?_
  repeat (first | refine S0 ?_ | refine S1 ?_ | refine S2 ?_ | refine S3 ?_ | refine S4 ?_ | refine S5 ?_ | refine S6 ?_ | refine S7 ?_ | refine S8 ?_ | refine S9 ?_ | refine S10 ?_ | refine S11 ?_ | refine S12 ?_ | refine S13 ?_ | refine S14 ?_ | refine S15 ?_ | refine S16 ?_ | refine S17 ?_ ?_ | refine S18 ?_ | refine S19 ?_ | refine S20 ?_ | refine S21 ?_ | refine S22 ?_ | refine S23 ?_ | refine S24 ?_ | refine S25 ?_ | refine S26 ?_ | refine S27 ?_ | refine S28 ?_ | refine S29 ?_ | refine S30 ?_ | refine S31 ?_ | refine S32 ?_ | refine S33 ?_ | refine S34 ?_ | refine S35 ?_ | refine S36 ?_ | refine S37 ?_ | refine S38 ?_ | refine S39 ?_ | refine S40 ?_ | refine S41 ?_ | refine S42 ?_ | refine S43 ?_ | refine S44 ?_ | refine S45 ?_ | refine S46 ?_ | refine S47 ?_ | refine S48 ?_ | refine S49 ?_ | refine S50 ?_ | refine S51 ?_ | refine S52 ?_ | refine S53 ?_ | refine S54 ?_ | refine S55 ?_ | refine S56 ?_ | refine S57 ?_ | refine S58 ?_ | refine S59 ?_ | refine S60 ?_ | refine S61 ?_ | refine S62 ?_ | refine S63 ?_ | refine S64 ?_ | refine S65 ?_ | refine S66 ?_ | refine S67 ?_ | refine S68 ?_ | refine S69 ?_ | refine S70 ?_ | refine S71 ?_ | refine S72 ?_ | refine S73 ?_ | refine S74 ?_ | refine S75 ?_ | refine S76 ?_ | refine S77 ?_ | refine S78 ?_ | refine S79 ?_ | refine S80 ?_ | refine S81 ?_ | refine S82 ?_ | refine S83 ?_ | refine S84 ?_ | refine S85 ?_ | refine S86 ?_ | refine S87 ?_)
  have hlen := hM.len
  refine CW.loopS (fun i : Nat => i ≤ n) (fun i => [(0, pli (pnat q)), (1, .lptr [plls m]), (2, .ptr T0 0), (4, pint (sgn (invs q) * ppr (ent m) q i)), (9, pli (pnat q)), (10, pint n), (11, pint i)]) (fun i hp => hp = h) (fun i => n - i) 0 ⟨by omega, by simp only [ppr, Int.mul_one]; rw [← hql]; exact SLx, rfl⟩ ?_
  rintro i t _ hi rfl
  first | simp only [updS] | simp only [updL, Nat.reduceAdd]
  by_cases hi2 : i < n
  · have hv := pnat_get q i
    have hrow := hM.row i hi2
    have hqi : q.getD i 0 < n := hq.lt _ (by have := hq.len; rw [show q.getD i 0 = q[i] by simp [List.getD, show i < q.length by omega]]; exact List.getElem_mem _)
    have b1 := sgn_mul_bd (invs q) (ppr_bd hM.bd q (i + 1))
    have b2 := p100_6 (show i + 1 ≤ 6 by omega)
    have e1 : sgn (invs q) * ppr (ent m) q i * ((m.getD i []).getD ((pnat q).getD i 0).toNat 0) = sgn (invs q) * ppr (ent m) q (i + 1) := by rw [hv, Int.mul_assoc]; rfl
    have b3 : -1000000000000 ≤ sgn (invs q) * ppr (ent m) q i * ((m.getD i []).getD ((pnat q).getD i 0).toNat 0) ∧ sgn (invs q) * ppr (ent m) q i * ((m.getD i []).getD ((pnat q).getD i 0).toNat 0) ≤ 1000000000000 := by rw [e1]; omega
    repeat (first | refine S0 ?_ | refine S1 ?_ | refine S2 ?_ | refine S3 ?_ | refine S4 ?_ | refine S5 ?_ | refine S6 ?_ | refine S7 ?_ | refine S8 ?_ | refine S9 ?_ | refine S10 ?_ | refine S11 ?_ | refine S12 ?_ | refine S13 ?_ | refine S14 ?_ | refine S15 ?_ | refine S16 ?_ | refine S17 ?_ ?_ | refine S18 ?_ | refine S19 ?_ | refine S20 ?_ | refine S21 ?_ | refine S22 ?_ | refine S23 ?_ | refine S24 ?_ | refine S25 ?_ | refine S26 ?_ | refine S27 ?_ | refine S28 ?_ | refine S29 ?_ | refine S30 ?_ | refine S31 ?_ | refine S32 ?_ | refine S33 ?_ | refine S34 ?_ | refine S35 ?_ | refine S36 ?_ | refine S37 ?_ | refine S38 ?_ | refine S39 ?_ | refine S40 ?_ | refine S41 ?_ | refine S42 ?_ | refine S43 ?_ | refine S44 ?_ | refine S45 ?_ | refine S46 ?_ | refine S47 ?_ | refine S48 ?_ | refine S49 ?_ | refine S50 ?_ | refine S51 ?_ | refine S52 ?_ | refine S53 ?_ | refine S54 ?_ | refine S55 ?_ | refine S56 ?_ | refine S57 ?_ | refine S58 ?_ | refine S59 ?_ | refine S60 ?_ | refine S61 ?_ | refine S62 ?_ | refine S63 ?_ | refine S64 ?_ | refine S65 ?_ | refine S66 ?_ | refine S67 ?_ | refine S68 ?_ | refine S69 ?_ | refine S70 ?_ | refine S71 ?_ | refine S72 ?_ | refine S73 ?_ | refine S74 ?_ | refine S75 ?_ | refine S76 ?_ | refine S77 ?_ | refine S78 ?_ | refine S79 ?_ | refine S80 ?_ | refine S81 ?_ | refine S82 ?_ | refine S83 ?_ | refine S84 ?_ | refine S85 ?_ | refine S86 ?_ | refine S87 ?_)
    refine ⟨i + 1, by omega, ?_, rfl, by omega⟩
    rw [← e1]
    exact SLx
  · obtain rfl : i = n := by omega
    repeat (first | refine S0 ?_ | refine S1 ?_ | refine S2 ?_ | refine S3 ?_ | refine S4 ?_ | refine S5 ?_ | refine S6 ?_ | refine S7 ?_ | refine S8 ?_ | refine S9 ?_ | refine S10 ?_ | refine S11 ?_ | refine S12 ?_ | refine S13 ?_ | refine S14 ?_ | refine S15 ?_ | refine S16 ?_ | refine S17 ?_ ?_ | refine S18 ?_ | refine S19 ?_ | refine S20 ?_ | refine S21 ?_ | refine S22 ?_ | refine S23 ?_ | refine S24 ?_ | refine S25 ?_ | refine S26 ?_ | refine S27 ?_ | refine S28 ?_ | refine S29 ?_ | refine S30 ?_ | refine S31 ?_ | refine S32 ?_ | refine S33 ?_ | refine S34 ?_ | refine S35 ?_ | refine S36 ?_ | refine S37 ?_ | refine S38 ?_ | refine S39 ?_ | refine S40 ?_ | refine S41 ?_ | refine S42 ?_ | refine S43 ?_ | refine S44 ?_ | refine S45 ?_ | refine S46 ?_ | refine S47 ?_ | refine S48 ?_ | refine S49 ?_ | refine S50 ?_ | refine S51 ?_ | refine S52 ?_ | refine S53 ?_ | refine S54 ?_ | refine S55 ?_ | refine S56 ?_ | refine S57 ?_ | refine S58 ?_ | refine S59 ?_ | refine S60 ?_ | refine S61 ?_ | refine S62 ?_ | refine S63 ?_ | refine S64 ?_ | refine S65 ?_ | refine S66 ?_ | refine S67 ?_ | refine S68 ?_ | refine S69 ?_ | refine S70 ?_ | refine S71 ?_ | refine S72 ?_ | refine S73 ?_ | refine S74 ?_ | refine S75 ?_ | refine S76 ?_ | refine S77 ?_ | refine S78 ?_ | refine S79 ?_ | refine S80 ?_ | refine S81 ?_ | refine S82 ?_ | refine S83 ?_ | refine S84 ?_ | refine S85 ?_ | refine S86 ?_ | refine S87 ?_)
    refine AW.addW EVx EVx ?_
    rw [wrap_add]
    repeat (first | refine S0 ?_ | refine S1 ?_ | refine S2 ?_ | refine S3 ?_ | refine S4 ?_ | refine S5 ?_ | refine S6 ?_ | refine S7 ?_ | refine S8 ?_ | refine S9 ?_ | refine S10 ?_ | refine S11 ?_ | refine S12 ?_ | refine S13 ?_ | refine S14 ?_ | refine S15 ?_ | refine S16 ?_ | refine S17 ?_ ?_ | refine S18 ?_ | refine S19 ?_ | refine S20 ?_ | refine S21 ?_ | refine S22 ?_ | refine S23 ?_ | refine S24 ?_ | refine S25 ?_ | refine S26 ?_ | refine S27 ?_ | refine S28 ?_ | refine S29 ?_ | refine S30 ?_ | refine S31 ?_ | refine S32 ?_ | refine S33 ?_ | refine S34 ?_ | refine S35 ?_ | refine S36 ?_ | refine S37 ?_ | refine S38 ?_ | refine S39 ?_ | refine S40 ?_ | refine S41 ?_ | refine S42 ?_ | refine S43 ?_ | refine S44 ?_ | refine S45 ?_ | refine S46 ?_ | refine S47 ?_ | refine S48 ?_ | refine S49 ?_ | refine S50 ?_ | refine S51 ?_ | refine S52 ?_ | refine S53 ?_ | refine S54 ?_ | refine S55 ?_ | refine S56 ?_ | refine S57 ?_ | refine S58 ?_ | refine S59 ?_ | refine S60 ?_ | refine S61 ?_ | refine S62 ?_ | refine S63 ?_ | refine S64 ?_ | refine S65 ?_ | refine S66 ?_ | refine S67 ?_ | refine S68 ?_ | refine S69 ?_ | refine S70 ?_ | refine S71 ?_ | refine S72 ?_ | refine S73 ?_ | refine S74 ?_ | refine S75 ?_ | refine S76 ?_ | refine S77 ?_ | refine S78 ?_ | refine S79 ?_ | refine S80 ?_ | refine S81 ?_ | refine S82 ?_ | refine S83 ?_ | refine S84 ?_ | refine S85 ?_ | refine S86 ?_ | refine S87 ?_)
    have hp : part m i ps + sgn (invs q) * ppr (ent m) q i = part m i (ps ++ [q]) := by
      unfold part
      rw [sm_append]
      have := prd_ppr (ent m) q q.length (Nat.le_refl _)
      rw [List.take_length, hq.len] at this
      simp only [sm, this]
      omega
    rw [hp]
    exact ⟨.inl rfl, _, rfl, HP.set_same _ _ _, (Fr.refl _ _).set _ (.inl (by simp))⟩
theorem pow600_6 {i : Nat} (h : i ≤ 6) : pow600 i ≤ 50000000000000000 := by
  match i, h with
  | 0, _ => decide
  | 1, _ => decide
  | 2, _ => decide
  | 3, _ => decide
  | 4, _ => decide
  | 5, _ => decide
  | 6, _ => decide
set_option maxHeartbeats 16000000 in
set_option maxRecDepth 100000 in
theorem determinant_s {m : List (List Int)} {n : Nat} (hM : Mx m n n) : SC Try.prog 10 [plls m] (pint (lap (ent m) (List.range n) (List.range n))) := by
  have hlen := hM.len
  have hn6 := hM.hn
  refine SC.go {} tok mixed Try.func10 rfl rfl Try.ntmps10 rfl rfl (by kernel_rfl) ?_
  first | simp only [updS] | simp only [updL, Nat.reduceAdd]
  repeat (first | refine S0 ?_ | refine S1 ?_ | refine S2 ?_ | refine S3 ?_ | refine S4 ?_ | refine S5 ?_ | refine S6 ?_ | refine S7 ?_ | refine S8 ?_ | refine S9 ?_ | refine S10 ?_ | refine S11 ?_ | refine S12 ?_ | refine S13 ?_ | refine S14 ?_ | refine S15 ?_ | refine S16 ?_ | refine S17 ?_ ?_ | refine S18 ?_ | refine S19 ?_ | refine S20 ?_ | refine S21 ?_ | refine S22 ?_ | refine S23 ?_ | refine S24 ?_ | refine S25 ?_ | refine S26 ?_ | refine S27 ?_ | refine S28 ?_ | refine S29 ?_ | refine S30 ?_ | refine S31 ?_ | refine S32 ?_ | refine S33 ?_ | refine S34 ?_ | refine S35 ?_ | refine S36 ?_ | refine S37 ?_ | refine S38 ?_ | refine S39 ?_ | refine S40 ?_ | refine S41 ?_ | refine S42 ?_ | refine S43 ?_ | refine S44 ?_ | refine S45 ?_ | refine S46 ?_ | refine S47 ?_ | refine S48 ?_ | refine S49 ?_ | refine S50 ?_ | refine S51 ?_ | refine S52 ?_ | refine S53 ?_ | refine S54 ?_ | refine S55 ?_ | refine S56 ?_ | refine S57 ?_ | refine S58 ?_ | refine S59 ?_ | refine S60 ?_ | refine S61 ?_ | refine S62 ?_ | refine S63 ?_ | refine S64 ?_ | refine S65 ?_ | refine S66 ?_ | refine S67 ?_ | refine S68 ?_ | refine S69 ?_ | refine S70 ?_ | refine S71 ?_ | refine S72 ?_ | refine S73 ?_ | refine S74 ?_ | refine S75 ?_ | refine S76 ?_ | refine S77 ?_ | refine S78 ?_ | refine S79 ?_ | refine S80 ?_ | refine S81 ?_ | refine S82 ?_ | refine S83 ?_ | refine S84 ?_ | refine S85 ?_ | refine S86 ?_ | refine S87 ?_)
  have hF := det1_e hM (T0 := H0.tok true) (by simp [HP.tok])
  have ke := perms_e hF hn6 (by simp [HP.tok]) (h := (H0.add true [.sc (.int .i64 0)]).set (H0.tok true) [.sc (.int .i64 0)]) (by
    rw [HP.set_same]
    unfold valD part sm
    rw [wrap_in (by unfold in64; omega)]
    rfl)
  rw [← hlen] at ke
  refine Scalle (args := [pint m.length, .clo 20 [.lptr [plls m], .ptr (H0.tok true) 0]]) ke ?_
  rintro r h' ⟨hb', hf'⟩
  change _ = some [pint (IntKind.i64.wrap (part m m.length (sfx m.length m.length [])))] at hb'
  rw [hlen] at hb'
  have e : part m n (sfx n n []) = lap (ent m) (List.range n) (List.range n) := by
    have := lap_leib (ent m) (List.range n)
    rw [List.length_range] at this
    exact this.symm
  have b := lap_bd hM.bd (List.range n) (List.range n) (by simp; exact hn6)
  rw [List.length_range] at b
  have b2 := pow600_6 hn6
  rw [e, wrap_in (by unfold in64; omega)] at hb'
  repeat (first | refine S0 ?_ | refine S1 ?_ | refine S2 ?_ | refine S3 ?_ | refine S4 ?_ | refine S5 ?_ | refine S6 ?_ | refine S7 ?_ | refine S8 ?_ | refine S9 ?_ | refine S10 ?_ | refine S11 ?_ | refine S12 ?_ | refine S13 ?_ | refine S14 ?_ | refine S15 ?_ | refine S16 ?_ | refine S17 ?_ ?_ | refine S18 ?_ | refine S19 ?_ | refine S20 ?_ | refine S21 ?_ | refine S22 ?_ | refine S23 ?_ | refine S24 ?_ | refine S25 ?_ | refine S26 ?_ | refine S27 ?_ | refine S28 ?_ | refine S29 ?_ | refine S30 ?_ | refine S31 ?_ | refine S32 ?_ | refine S33 ?_ | refine S34 ?_ | refine S35 ?_ | refine S36 ?_ | refine S37 ?_ | refine S38 ?_ | refine S39 ?_ | refine S40 ?_ | refine S41 ?_ | refine S42 ?_ | refine S43 ?_ | refine S44 ?_ | refine S45 ?_ | refine S46 ?_ | refine S47 ?_ | refine S48 ?_ | refine S49 ?_ | refine S50 ?_ | refine S51 ?_ | refine S52 ?_ | refine S53 ?_ | refine S54 ?_ | refine S55 ?_ | refine S56 ?_ | refine S57 ?_ | refine S58 ?_ | refine S59 ?_ | refine S60 ?_ | refine S61 ?_ | refine S62 ?_ | refine S63 ?_ | refine S64 ?_ | refine S65 ?_ | refine S66 ?_ | refine S67 ?_ | refine S68 ?_ | refine S69 ?_ | refine S70 ?_ | refine S71 ?_ | refine S72 ?_ | refine S73 ?_ | refine S74 ?_ | refine S75 ?_ | refine S76 ?_ | refine S77 ?_ | refine S78 ?_ | refine S79 ?_ | refine S80 ?_ | refine S81 ?_ | refine S82 ?_ | refine S83 ?_ | refine S84 ?_ | refine S85 ?_ | refine S86 ?_ | refine S87 ?_)
  exact ⟨.inr rfl, .cl rfl⟩
end Go.Proofs.Yteecmiagfjjefaa
