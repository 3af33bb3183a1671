/- intmatrix.gcd, count, Check; timbref1.MatrixFault (written by genMatF.py). No condition of its own. -/
import Derived.Test.YtgjfpmjllpgadaaGColorCountsBH
set_option linter.unusedVariables false
set_option linter.unusedSimpArgs false
namespace Go.Proofs.Ytgjfpmjllpgadaa
open Go.RowKit

theorem gcd_tmod (a b : Int) : Int.gcd b (a.tmod b) = Int.gcd a b := by
  have h1 : Int.gcd b (a.tmod b) = Nat.gcd b.natAbs (a.natAbs % b.natAbs) := by
    unfold Int.gcd
    rw [Int.natAbs_tmod]
  rw [h1]
  exact (Nat.gcd_comm _ _).trans ((Nat.gcd_rec b.natAbs a.natAbs).symm.trans (Nat.gcd_comm _ _))
theorem tmod_bd (a b : Int) (h : b ≠ 0) : (a.tmod b).natAbs < b.natAbs := by
  rw [Int.natAbs_tmod]; exact Nat.mod_lt _ (by omega)
set_option maxHeartbeats 2000000 in
set_option maxRecDepth 100000 in
theorem mgcd_s (a b : Int) (ha : -1000000000000000000 ≤ a ∧ a ≤ 1000000000000000000) (hb : -1000000000000000000 ≤ b ∧ b ≤ 1000000000000000000) : SC Try.prog 132 [pint a, pint b] (pint ((Int.gcd a b : Nat) : Int)) := by
  refine SC.go {} tok mixed Try.func132 rfl rfl Try.ntmps132 rfl rfl (by kernel_rfl) ?_
  first | simp only [updS] | simp only [updL, Nat.reduceAdd]
  repeat (first | refine S0 ?_ | refine S1 ?_ | refine S2 ?_ | refine S3 ?_ | refine S4 ?_ | refine S5 ?_ | refine S6 ?_ | refine S7 ?_ | refine S8 ?_ | refine S9 ?_ | refine S10 ?_ | refine S11 ?_ | refine S12 ?_ | refine S13 ?_ | refine S15 ?_ | refine S16 ?_ | refine S19 ?_ | refine S20 ?_ | refine S21 ?_ | refine S22 ?_ | refine S23 ?_ | refine S25 ?_ | refine S26 ?_ | refine S29 ?_ | refine S30 ?_ | refine S33 ?_ | refine S35 ?_ | refine S37 ?_ | refine S38 ?_ | refine S40 ?_ | refine S41 ?_ | refine S54 ?_ | refine S76 ?_)
  refine CW.loopS (fun i : Int × Int => Int.gcd i.1 i.2 = Int.gcd a b ∧ (-1000000000000000000 ≤ i.1 ∧ i.1 ≤ 1000000000000000000) ∧ (-1000000000000000000 ≤ i.2 ∧ i.2 ≤ 1000000000000000000)) (fun i => [(0, pint i.1), (1, pint i.2)]) (fun _ _ => True) (fun i => i.2.natAbs) (a, b) ⟨⟨rfl, ha, hb⟩, SLx, trivial⟩ ?_
  rintro ⟨x, y⟩ t hp ⟨hg, hx, hy⟩ _
  simp only at hg hx hy
  first | simp only [updS] | simp only [updL, Nat.reduceAdd]
  by_cases h0 : y = 0
  · subst h0
    rw [Int.gcd_zero_right] at hg
    rw [← hg]
    repeat (first | refine S0 ?_ | refine S1 ?_ | refine S2 ?_ | refine S3 ?_ | refine S4 ?_ | refine S5 ?_ | refine S6 ?_ | refine S7 ?_ | refine S8 ?_ | refine S9 ?_ | refine S10 ?_ | refine S11 ?_ | refine S12 ?_ | refine S13 ?_ | refine S15 ?_ | refine S16 ?_ | refine S19 ?_ | refine S20 ?_ | refine S21 ?_ | refine S22 ?_ | refine S23 ?_ | refine S25 ?_ | refine S26 ?_ | refine S29 ?_ | refine S30 ?_ | refine S33 ?_ | refine S35 ?_ | refine S37 ?_ | refine S38 ?_ | refine S40 ?_ | refine S41 ?_ | refine S54 ?_ | refine S76 ?_)
    have e : (if x < -x then -x else x) = ((x.natAbs : Nat) : Int) := by split <;> omega
    rw [e]
    exact ⟨.inr rfl, .cl rfl⟩
  · have hm := tmod_bd x y h0
    repeat (first | refine S0 ?_ | refine S1 ?_ | refine S2 ?_ | refine S3 ?_ | refine S4 ?_ | refine S5 ?_ | refine S6 ?_ | refine S7 ?_ | refine S8 ?_ | refine S9 ?_ | refine S10 ?_ | refine S11 ?_ | refine S12 ?_ | refine S13 ?_ | refine S15 ?_ | refine S16 ?_ | refine S19 ?_ | refine S20 ?_ | refine S21 ?_ | refine S22 ?_ | refine S23 ?_ | refine S25 ?_ | refine S26 ?_ | refine S29 ?_ | refine S30 ?_ | refine S33 ?_ | refine S35 ?_ | refine S37 ?_ | refine S38 ?_ | refine S40 ?_ | refine S41 ?_ | refine S54 ?_ | refine S76 ?_)
    exact ⟨(y, x.tmod y), ⟨by simp only; rw [gcd_tmod]; exact hg, hy, by simp only; omega⟩, SLx, trivial, by simp only; omega⟩
theorem bits_clr : ∀ b : Fin 64, b.val ≠ 0 → IntKind.i64.wrap ((BitVec.ofInt IntKind.i64.bits ((b.val : Nat) : Int) &&& BitVec.ofInt IntKind.i64.bits ((b.val : Int) - 1)).toNat : Int) = ((b.val &&& (b.val - 1) : Nat) : Int) ∧ (bitsL (b.val &&& (b.val - 1)) 6).length + 1 = (bitsL b.val 6).length ∧ (b.val &&& (b.val - 1)) < 64 := by decide +kernel
theorem bin_clr (b : Nat) (hb : b < 64) (h0 : b ≠ 0) (t : TypeId) (x y : Operand) (w : World) : (do eqGuard .and t x y (.int .i64 b) (.int .i64 ((b : Int) - 1)); binOp .and t (.int .i64 b) (.int .i64 ((b : Int) - 1)) : Sem Value).run Try.prog w = .ok (.int .i64 ((b &&& (b - 1) : Nat) : Int)) w := by
  have h1 : (eqGuard .and t x y (.int .i64 b) (.int .i64 ((b : Int) - 1))).run Try.prog w = .ok () w := rfl
  rw [Sem.run_bind, h1]
  show Result.ok (Value.int .i64 (IntKind.i64.wrap ((BitVec.ofInt IntKind.i64.bits (b : Int) &&& BitVec.ofInt IntKind.i64.bits ((b : Int) - 1)).toNat : Int))) w = _
  rw [(bits_clr ⟨b, hb⟩ h0).1]
set_option maxHeartbeats 2000000 in
set_option maxRecDepth 100000 in
theorem mcount_s (b : Nat) (hb : b < 64) : SC Try.prog 143 [pint b] (pint (bitsL b 6).length) := by
  refine SC.go {} tok mixed Try.func143 rfl rfl Try.ntmps143 rfl rfl (by kernel_rfl) ?_
  first | simp only [updS] | simp only [updL, Nat.reduceAdd]
  repeat (first | refine S0 ?_ | refine S1 ?_ | refine S2 ?_ | refine S3 ?_ | refine S4 ?_ | refine S5 ?_ | refine S6 ?_ | refine S7 ?_ | refine S8 ?_ | refine S9 ?_ | refine S10 ?_ | refine S11 ?_ | refine S12 ?_ | refine S13 ?_ | refine S15 ?_ | refine S16 ?_ | refine S19 ?_ | refine S20 ?_ | refine S21 ?_ | refine S22 ?_ | refine S23 ?_ | refine S25 ?_ | refine S26 ?_ | refine S29 ?_ | refine S30 ?_ | refine S33 ?_ | refine S35 ?_ | refine S37 ?_ | refine S38 ?_ | refine S40 ?_ | refine S41 ?_ | refine S54 ?_ | refine S76 ?_)
  refine CW.loopS (fun i : Nat × Nat => i.1 < 64 ∧ i.2 + (bitsL i.1 6).length = (bitsL b 6).length) (fun i => [(0, pint i.1), (3, pint i.2)]) (fun _ _ => True) (fun i => (bitsL i.1 6).length) (b, 0) ⟨⟨hb, by simp⟩, SLx, trivial⟩ ?_
  rintro ⟨s, n⟩ t hp ⟨hs, hn⟩ _
  simp only at hs hn
  have hl := bits_len b 6
  first | simp only [updS] | simp only [updL, Nat.reduceAdd]
  by_cases h0 : s = 0
  · subst h0
    have e : (bitsL 0 6).length = 0 := by decide
    rw [e, Nat.add_zero] at hn
    rw [← hn]
    repeat (first | refine S0 ?_ | refine S1 ?_ | refine S2 ?_ | refine S3 ?_ | refine S4 ?_ | refine S5 ?_ | refine S6 ?_ | refine S7 ?_ | refine S8 ?_ | refine S9 ?_ | refine S10 ?_ | refine S11 ?_ | refine S12 ?_ | refine S13 ?_ | refine S15 ?_ | refine S16 ?_ | refine S19 ?_ | refine S20 ?_ | refine S21 ?_ | refine S22 ?_ | refine S23 ?_ | refine S25 ?_ | refine S26 ?_ | refine S29 ?_ | refine S30 ?_ | refine S33 ?_ | refine S35 ?_ | refine S37 ?_ | refine S38 ?_ | refine S40 ?_ | refine S41 ?_ | refine S54 ?_ | refine S76 ?_)
    exact ⟨.inr rfl, .cl rfl⟩
  · obtain ⟨_, h2, h3⟩ := bits_clr ⟨s, hs⟩ h0
    simp only at h2 h3
    repeat (first | refine S0 ?_ | refine S1 ?_ | refine S2 ?_ | refine S3 ?_ | refine S4 ?_ | refine S5 ?_ | refine S6 ?_ | refine S7 ?_ | refine S8 ?_ | refine S9 ?_ | refine S10 ?_ | refine S11 ?_ | refine S12 ?_ | refine S13 ?_ | refine S15 ?_ | refine S16 ?_ | refine S19 ?_ | refine S20 ?_ | refine S21 ?_ | refine S22 ?_ | refine S23 ?_ | refine S25 ?_ | refine S26 ?_ | refine S29 ?_ | refine S30 ?_ | refine S33 ?_ | refine S35 ?_ | refine S37 ?_ | refine S38 ?_ | refine S40 ?_ | refine S41 ?_ | refine S54 ?_ | refine S76 ?_)
    refine AW.binf EVx EVx (bin_clr s hs h0 _ _ _) ?_
    repeat (first | refine S0 ?_ | refine S1 ?_ | refine S2 ?_ | refine S3 ?_ | refine S4 ?_ | refine S5 ?_ | refine S6 ?_ | refine S7 ?_ | refine S8 ?_ | refine S9 ?_ | refine S10 ?_ | refine S11 ?_ | refine S12 ?_ | refine S13 ?_ | refine S15 ?_ | refine S16 ?_ | refine S19 ?_ | refine S20 ?_ | refine S21 ?_ | refine S22 ?_ | refine S23 ?_ | refine S25 ?_ | refine S26 ?_ | refine S29 ?_ | refine S30 ?_ | refine S33 ?_ | refine S35 ?_ | refine S37 ?_ | refine S38 ?_ | refine S40 ?_ | refine S41 ?_ | refine S54 ?_ | refine S76 ?_)
    exact ⟨(s &&& (s - 1), n + 1), ⟨h3, by simp only; omega⟩, SLx, trivial, by simp only; omega⟩
def okE (x : Int) : Prop := -100 ≤ x ∧ x ≤ 100
instance (x : Int) : Decidable (okE x) := by unfold okE; exact inferInstance
def rF (k : Nat) (r : List Int) : Int := if 6 < r.length then 2 else if r.length ≠ k then 3 else if ∀ x ∈ r, okE x then 0 else 1
def rsF (k : Nat) : List (List Int) → Int
  | [] => 0
  | r :: l => if rF k r = 0 then rsF k l else rF k r
/-- WHAT IS WRONG with a matrix -/
def mF (m : List (List Int)) : Int := if 6 < m.length then 2 else rsF (m.getD 0 []).length m
theorem rF_ok {k : Nat} {r : List Int} (h : rF k r = 0) : r.length ≤ 6 ∧ r.length = k ∧ ∀ x ∈ r, okE x := by
  unfold rF at h
  split at h
  · cases h
  · split at h
    · cases h
    · split at h
      · rename_i h1 h2 h3
        exact ⟨by omega, by omega, h3⟩
      · cases h
theorem rsF_ok {k : Nat} : ∀ {l : List (List Int)}, rsF k l = 0 → ∀ r ∈ l, rF k r = 0
  | [], _, _, hr => by cases hr
  | s :: l, h, r, hr => by
    unfold rsF at h
    split at h
    · rcases List.mem_cons.1 hr with rfl | hr
      · assumption
      · exact rsF_ok h r hr
    · contradiction
theorem ent_zero {m : List (List Int)} {r c : Nat} (h : ∀ x ∈ m.getD r [], okE x) : -100 ≤ ent m r c ∧ ent m r c ≤ 100 := by
  unfold ent
  by_cases hc : c < (m.getD r []).length
  · rw [getD_lt 0 hc]; exact h _ (List.getElem_mem hc)
  · rw [show (m.getD r []).getD c 0 = 0 by rw [List.getD_eq_getElem?_getD, List.getElem?_eq_none (by omega)]; rfl]
    omega
/-- A RIGHT MATRIX -/
theorem mF_ok {m : List (List Int)} (h : mF m = 0) : Mx m m.length (m.getD 0 []).length := by
  unfold mF at h
  split at h
  · cases h
  rename_i h6
  have hr := rsF_ok h
  have hg : ∀ r, r < m.length → rF (m.getD 0 []).length (m.getD r []) = 0 := fun r hl => hr _ (by rw [getD_lt [] hl]; exact List.getElem_mem hl)
  refine ⟨rfl, by omega, ?_, fun r hl => (rF_ok (hg r hl)).2.1, fun r c => ?_, fun h0 => ?_⟩
  · by_cases h0 : m.length = 0
    · obtain rfl := List.eq_nil_of_length_eq_zero h0
      simp
    · exact (rF_ok (hg 0 (by omega))).1
  · by_cases hl : r < m.length
    · exact ent_zero (rF_ok (hg r hl)).2.2
    · refine ent_zero (fun x hx => ?_)
      rw [List.getD_eq_getElem?_getD, List.getElem?_eq_none (by omega)] at hx
      cases hx
  · obtain rfl := List.eq_nil_of_length_eq_zero h0
    rfl
set_option maxHeartbeats 8000000 in
set_option maxRecDepth 100000 in
theorem mcheck_s (m : List (List Int)) : SC Try.prog 130 [plls m] (pint (mF m)) := by
  refine SC.len ⟨_, Try.func130, rfl, rfl⟩ (fun _ => ?_)
  refine SC.go {} tok mixed Try.func130 rfl rfl Try.ntmps130 rfl rfl (by kernel_rfl) ?_
  first | simp only [updS] | simp only [updL, Nat.reduceAdd]
  by_cases h6 : 6 < m.length
  · rw [show mF m = 2 from if_pos h6]
    repeat (first | refine S0 ?_ | refine S1 ?_ | refine S2 ?_ | refine S3 ?_ | refine S4 ?_ | refine S5 ?_ | refine S6 ?_ | refine S7 ?_ | refine S8 ?_ | refine S9 ?_ | refine S10 ?_ | refine S11 ?_ | refine S12 ?_ | refine S13 ?_ | refine S15 ?_ | refine S16 ?_ | refine S19 ?_ | refine S20 ?_ | refine S21 ?_ | refine S22 ?_ | refine S23 ?_ | refine S25 ?_ | refine S26 ?_ | refine S29 ?_ | refine S30 ?_ | refine S33 ?_ | refine S35 ?_ | refine S37 ?_ | refine S38 ?_ | refine S40 ?_ | refine S41 ?_ | refine S54 ?_ | refine S76 ?_)
    exact ⟨.inr rfl, .cl rfl⟩
  rw [show mF m = rsF (m.getD 0 []).length m from if_neg h6]
  obtain ⟨k, hk⟩ : ∃ k, k = (m.getD 0 []).length := ⟨_, rfl⟩
  rw [← hk]
  have hk0 : (m.getD (Int.toNat 0) []).length = k := hk.symm
  repeat (first | refine S0 ?_ | refine S1 ?_ | refine S2 ?_ | refine S3 ?_ | refine S4 ?_ | refine S5 ?_ | refine S6 ?_ | refine S7 ?_ | refine S8 ?_ | refine S9 ?_ | refine S10 ?_ | refine S11 ?_ | refine S12 ?_ | refine S13 ?_ | refine S15 ?_ | refine S16 ?_ | refine S19 ?_ | refine S20 ?_ | refine S21 ?_ | refine S22 ?_ | refine S23 ?_ | refine S25 ?_ | refine S26 ?_ | refine S29 ?_ | refine S30 ?_ | refine S33 ?_ | refine S35 ?_ | refine S37 ?_ | refine S38 ?_ | refine S40 ?_ | refine S41 ?_ | refine S54 ?_ | refine S76 ?_)
  refine CW.loopS (fun i : Nat => i ≤ m.length ∧ rsF k m = rsF k (m.drop i)) (fun i => [(0, plls m), (10, plls m), (11, pint m.length), (12, pint i)]) (fun _ _ => True) (fun i => m.length - i) 0 ⟨⟨Nat.zero_le _, rfl⟩, SLx, trivial⟩ ?_
  rintro i t hp ⟨hi, hg⟩ _
  first | simp only [updS] | simp only [updL, Nat.reduceAdd]
  by_cases hlt : i < m.length
  · have hd : m.drop i = m.getD i [] :: m.drop (i + 1) := by rw [List.drop_eq_getElem_cons hlt, getD_lt [] hlt]
    rw [hd, show rsF k (m.getD i [] :: m.drop (i + 1)) = if rF k (m.getD i []) = 0 then rsF k (m.drop (i + 1)) else rF k (m.getD i []) from rfl] at hg
    by_cases c1 : 6 < (m.getD i []).length
    · have e : rF k (m.getD i []) = 2 := if_pos c1
      rw [e, if_neg (by decide)] at hg
      rw [hg]
      repeat (first | refine S0 ?_ | refine S1 ?_ | refine S2 ?_ | refine S3 ?_ | refine S4 ?_ | refine S5 ?_ | refine S6 ?_ | refine S7 ?_ | refine S8 ?_ | refine S9 ?_ | refine S10 ?_ | refine S11 ?_ | refine S12 ?_ | refine S13 ?_ | refine S15 ?_ | refine S16 ?_ | refine S19 ?_ | refine S20 ?_ | refine S21 ?_ | refine S22 ?_ | refine S23 ?_ | refine S25 ?_ | refine S26 ?_ | refine S29 ?_ | refine S30 ?_ | refine S33 ?_ | refine S35 ?_ | refine S37 ?_ | refine S38 ?_ | refine S40 ?_ | refine S41 ?_ | refine S54 ?_ | refine S76 ?_)
      exact ⟨.inr rfl, .cl rfl⟩
    by_cases c2 : (m.getD i []).length ≠ k
    · have e : rF k (m.getD i []) = 3 := by unfold rF; rw [if_neg c1, if_pos c2]
      rw [e, if_neg (by decide)] at hg
      rw [hg]
      rw [← hk0] at c2
      repeat (first | refine S0 ?_ | refine S1 ?_ | refine S2 ?_ | refine S3 ?_ | refine S4 ?_ | refine S5 ?_ | refine S6 ?_ | refine S7 ?_ | refine S8 ?_ | refine S9 ?_ | refine S10 ?_ | refine S11 ?_ | refine S12 ?_ | refine S13 ?_ | refine S15 ?_ | refine S16 ?_ | refine S19 ?_ | refine S20 ?_ | refine S21 ?_ | refine S22 ?_ | refine S23 ?_ | refine S25 ?_ | refine S26 ?_ | refine S29 ?_ | refine S30 ?_ | refine S33 ?_ | refine S35 ?_ | refine S37 ?_ | refine S38 ?_ | refine S40 ?_ | refine S41 ?_ | refine S54 ?_ | refine S76 ?_)
      exact ⟨.inr rfl, .cl rfl⟩
    have c3 : (m.getD i []).length = (m.getD (Int.toNat 0) []).length := by omega
    repeat (first | refine S0 ?_ | refine S1 ?_ | refine S2 ?_ | refine S3 ?_ | refine S4 ?_ | refine S5 ?_ | refine S6 ?_ | refine S7 ?_ | refine S8 ?_ | refine S9 ?_ | refine S10 ?_ | refine S11 ?_ | refine S12 ?_ | refine S13 ?_ | refine S15 ?_ | refine S16 ?_ | refine S19 ?_ | refine S20 ?_ | refine S21 ?_ | refine S22 ?_ | refine S23 ?_ | refine S25 ?_ | refine S26 ?_ | refine S29 ?_ | refine S30 ?_ | refine S33 ?_ | refine S35 ?_ | refine S37 ?_ | refine S38 ?_ | refine S40 ?_ | refine S41 ?_ | refine S54 ?_ | refine S76 ?_)
    refine CW.loopS (fun j : Nat => j ≤ (m.getD i []).length ∧ ∀ q, q < j → okE ((m.getD i []).getD q 0)) (fun j => [(0, plls m), (10, plls m), (11, pint m.length), (12, pint i), (26, pli (m.getD i [])), (27, pint (m.getD i []).length), (28, pint j)]) (fun _ _ => True) (fun j => (m.getD i []).length - j) 0 ⟨⟨Nat.zero_le _, fun q hq => by omega⟩, SLx, trivial⟩ ?_
    clear t hp
    rintro j t hp ⟨hj, hok⟩ _
    first | simp only [updS] | simp only [updL, Nat.reduceAdd]
    by_cases hjl : j < (m.getD i []).length
    · by_cases ho : okE ((m.getD i []).getD j 0)
      · have ho2 := ho
        obtain ⟨o1, o2⟩ := ho2
        repeat (first | refine S0 ?_ | refine S1 ?_ | refine S2 ?_ | refine S3 ?_ | refine S4 ?_ | refine S5 ?_ | refine S6 ?_ | refine S7 ?_ | refine S8 ?_ | refine S9 ?_ | refine S10 ?_ | refine S11 ?_ | refine S12 ?_ | refine S13 ?_ | refine S15 ?_ | refine S16 ?_ | refine S19 ?_ | refine S20 ?_ | refine S21 ?_ | refine S22 ?_ | refine S23 ?_ | refine S25 ?_ | refine S26 ?_ | refine S29 ?_ | refine S30 ?_ | refine S33 ?_ | refine S35 ?_ | refine S37 ?_ | refine S38 ?_ | refine S40 ?_ | refine S41 ?_ | refine S54 ?_ | refine S76 ?_)
        refine ⟨j + 1, ⟨by omega, fun q hq => ?_⟩, SLx, trivial, by omega⟩
        by_cases e : q = j
        · rw [e]; exact ho
        · exact hok q (by omega)
      · have e : rF k (m.getD i []) = 1 := by
          unfold rF
          rw [if_neg c1, if_neg c2, if_neg]
          intro hall
          exact ho (hall _ (by rw [getD_lt 0 hjl]; exact List.getElem_mem hjl))
        rw [e, if_neg (by decide)] at hg
        rw [hg]
        by_cases o1 : (m.getD i []).getD j 0 < -100
        · have o2 : ¬ 100 < (m.getD i []).getD j 0 := by omega
          repeat (first | refine S0 ?_ | refine S1 ?_ | refine S2 ?_ | refine S3 ?_ | refine S4 ?_ | refine S5 ?_ | refine S6 ?_ | refine S7 ?_ | refine S8 ?_ | refine S9 ?_ | refine S10 ?_ | refine S11 ?_ | refine S12 ?_ | refine S13 ?_ | refine S15 ?_ | refine S16 ?_ | refine S19 ?_ | refine S20 ?_ | refine S21 ?_ | refine S22 ?_ | refine S23 ?_ | refine S25 ?_ | refine S26 ?_ | refine S29 ?_ | refine S30 ?_ | refine S33 ?_ | refine S35 ?_ | refine S37 ?_ | refine S38 ?_ | refine S40 ?_ | refine S41 ?_ | refine S54 ?_ | refine S76 ?_)
          exact ⟨.inr rfl, .cl rfl⟩
        · have o2 : 100 < (m.getD i []).getD j 0 := by unfold okE at ho; omega
          repeat (first | refine S0 ?_ | refine S1 ?_ | refine S2 ?_ | refine S3 ?_ | refine S4 ?_ | refine S5 ?_ | refine S6 ?_ | refine S7 ?_ | refine S8 ?_ | refine S9 ?_ | refine S10 ?_ | refine S11 ?_ | refine S12 ?_ | refine S13 ?_ | refine S15 ?_ | refine S16 ?_ | refine S19 ?_ | refine S20 ?_ | refine S21 ?_ | refine S22 ?_ | refine S23 ?_ | refine S25 ?_ | refine S26 ?_ | refine S29 ?_ | refine S30 ?_ | refine S33 ?_ | refine S35 ?_ | refine S37 ?_ | refine S38 ?_ | refine S40 ?_ | refine S41 ?_ | refine S54 ?_ | refine S76 ?_)
          exact ⟨.inr rfl, .cl rfl⟩
    · have e : rF k (m.getD i []) = 0 := by
        unfold rF
        rw [if_neg c1, if_neg c2, if_pos]
        intro x hx
        obtain ⟨q, hq, rfl⟩ := List.getElem_of_mem hx
        have := hok q (by omega)
        rwa [getD_lt 0 hq] at this
      rw [e, if_pos rfl] at hg
      repeat (first | refine S0 ?_ | refine S1 ?_ | refine S2 ?_ | refine S3 ?_ | refine S4 ?_ | refine S5 ?_ | refine S6 ?_ | refine S7 ?_ | refine S8 ?_ | refine S9 ?_ | refine S10 ?_ | refine S11 ?_ | refine S12 ?_ | refine S13 ?_ | refine S15 ?_ | refine S16 ?_ | refine S19 ?_ | refine S20 ?_ | refine S21 ?_ | refine S22 ?_ | refine S23 ?_ | refine S25 ?_ | refine S26 ?_ | refine S29 ?_ | refine S30 ?_ | refine S33 ?_ | refine S35 ?_ | refine S37 ?_ | refine S38 ?_ | refine S40 ?_ | refine S41 ?_ | refine S54 ?_ | refine S76 ?_)
      exact ⟨i + 1, ⟨by omega, hg⟩, SLx, trivial, by omega⟩
  · obtain rfl : i = m.length := by omega
    rw [List.drop_length] at hg
    rw [hg]
    repeat (first | refine S0 ?_ | refine S1 ?_ | refine S2 ?_ | refine S3 ?_ | refine S4 ?_ | refine S5 ?_ | refine S6 ?_ | refine S7 ?_ | refine S8 ?_ | refine S9 ?_ | refine S10 ?_ | refine S11 ?_ | refine S12 ?_ | refine S13 ?_ | refine S15 ?_ | refine S16 ?_ | refine S19 ?_ | refine S20 ?_ | refine S21 ?_ | refine S22 ?_ | refine S23 ?_ | refine S25 ?_ | refine S26 ?_ | refine S29 ?_ | refine S30 ?_ | refine S33 ?_ | refine S35 ?_ | refine S37 ?_ | refine S38 ?_ | refine S40 ?_ | refine S41 ?_ | refine S54 ?_ | refine S76 ?_)
    exact ⟨.inr rfl, .cl rfl⟩
end Go.Proofs.Ytgjfpmjllpgadaa
