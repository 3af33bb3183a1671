/- Facts and contracts that the claim uses. No condition of its own. -/
import Derived.Test.YtkmkcbkfakoomaaDoorGRingTextsAD
import Derived.Test.YtkmkcbkfakoomaaDoorGRingTextsBC
import Derived.Test.YtkmkcbkfakoomaaDoorGRingTextsBD
import Derived.Test.YtkmkcbkfakoomaaDoorGRingTextsBE
import Derived.Test.YtkmkcbkfakoomaaDoorGRingTextsBK
set_option linter.unusedVariables false
set_option linter.unusedSimpArgs false
namespace Go.Proofs.YtkmkcbkfakoomaaDoor
open Go.RowKit
theorem bcontains_cap {f : FuncId} {cap : List PV} {p : Int → Prop} [DecidablePred p] (hcl : PV.cl.clL cap = true) (h : ∀ x, SC Tryd.prog f (pint x :: cap) (.sc (.bool (decide (¬ p x))))) (c : List Int) (hl : c.length ≤ 1000000) : SC Tryd.prog 16 [pli c, .clo f cap] (.sc (.bool (decide (¬ ∀ x ∈ c, p x)))) := by
  by_cases hall : ∀ x ∈ c, p x
  · refine containsFunc_x hcl (indexFunc_none hl hcl (fun k hk => ?_)) (by rw [decide_eq_false (by decide)]; exact (decide_eq_false (fun c => c hall)).symm)
    have := h (c.getD k 0)
    rwa [decide_eq_false (fun c2 => c2 (hall _ (by rw [getD_lt 0 hk]; exact List.getElem_mem hk)))] at this
  · have hex : ∃ k, k < c.length ∧ ¬ p (c.getD k 0) := by
      apply Classical.byContradiction; intro hc
      apply hall
      intro x hx
      obtain ⟨i, hi, rfl⟩ := List.getElem_of_mem hx
      apply Classical.byContradiction; intro h3
      exact hc ⟨i, hi, by rw [getD_lt 0 hi]; exact h3⟩
    obtain ⟨m, ⟨hm, hbad⟩, hmin⟩ := exists_least _ hex
    refine containsFunc_x hcl (indexFunc_some hl hcl hm (fun k hk => ?_) ?_) (by rw [decide_eq_true (by omega)]; exact (decide_eq_true hall).symm)
    · have := h (c.getD k 0)
      have hl2 : p (c.getD k 0) := by
        apply Classical.byContradiction; intro h3
        have := hmin k ⟨by omega, h3⟩
        omega
      rwa [decide_eq_false (fun c2 => c2 hl2)] at this
    · have := h (c.getD m 0)
      rwa [decide_eq_true hbad] at this
theorem Rw.bd {n : Nat} {l : List Int} (h : Rw n l) (hn : n ≤ 9) : ∀ x ∈ l, in64 x := by
  obtain ⟨F, hF, e⟩ := h
  subst e
  intro x hx
  unfold tabN at hx
  obtain ⟨i, hi, rfl⟩ := List.mem_map.1 hx
  have := hF.lt i (List.mem_range.1 hi)
  exact in64_of (by omega)
theorem bshr {x y : Int} (b r : Nat) (hx : x = b) (hy : y = r) (hr : r ≤ 60) (t : TypeId) (p q : Operand) (w : World) : (do eqGuard .shr t p q (.int .i64 x) (.int .i64 y); binOp .shr t (.int .i64 x) (.int .i64 y) : Sem Value).run Tryd.prog w = .ok (.int .i64 ((b / 2 ^ r : Nat) : Int)) w := by
  subst hx hy; exact bin_shr b r hr t p q w
theorem band1 {x : Int} (b : Nat) (hx : x = b) (hb : b < 64) (t : TypeId) (p q : Operand) (w : World) : (do eqGuard .and t p q (.int .i64 x) (.int .i64 1); binOp .and t (.int .i64 x) (.int .i64 1) : Sem Value).run Tryd.prog w = .ok (.int .i64 ((b % 2 : Nat) : Int)) w := by
  subst hx; exact bin_and1 b hb t p q w
theorem bshl1 (b : Nat) (hb : b < 64) (t : TypeId) (p q : Operand) (w : World) : (do eqGuard .shl t p q (.int .i64 b) (.int .u64 1); binOp .shl t (.int .i64 b) (.int .u64 1) : Sem Value).run Tryd.prog w = .ok (.int .i64 ((2 * b : Nat) : Int)) w := by
  have h1 : (eqGuard .shl t p q (.int .i64 b) (.int .u64 1)).run Tryd.prog w = .ok () w := rfl
  rw [Sem.run_bind, h1]
  have e : ((b : Int) * 2 ^ 1) = ((2 * b : Nat) : Int) := by omega
  have h5 : IntKind.i64.wrap ((2 * b : Nat) : Int) = ((2 * b : Nat) : Int) := w64 (by omega)
  have h3 : ¬ ((1 : Int) < 0) := by omega
  simp only [binOp, Op.shift, IntKind.bits, h3, if_false, Result.andThen_ok]
  show Result.ok (Value.int .i64 (IntKind.i64.wrap ((b : Int) * 2 ^ 1))) w = _
  rw [e, h5]
theorem bits_adj : ∀ b : Fin 64, IntKind.i64.wrap ((BitVec.ofInt IntKind.i64.bits ((b.val : Nat) : Int) &&& BitVec.ofInt IntKind.i64.bits ((2 * b.val : Nat) : Int)).toNat : Int) = (((b.val &&& (2 * b.val)) : Nat) : Int) ∧ (b.val &&& (2 * b.val) = 0 ↔ noAd b.val = true) := by decide +kernel
theorem band2 (b : Nat) (hb : b < 64) (t : TypeId) (p q : Operand) (w : World) : (do eqGuard .and t p q (.int .i64 b) (.int .i64 ((2 * b : Nat) : Int)); binOp .and t (.int .i64 b) (.int .i64 ((2 * b : Nat) : Int)) : Sem Value).run Tryd.prog w = .ok (.int .i64 (((b &&& (2 * b)) : Nat) : Int)) w := by
  have h1 : (eqGuard .and t p q (.int .i64 b) (.int .i64 ((2 * b : Nat) : Int))).run Tryd.prog w = .ok () w := rfl
  rw [Sem.run_bind, h1]
  show Result.ok (Value.int .i64 (IntKind.i64.wrap ((BitVec.ofInt IntKind.i64.bits (b : Int) &&& BitVec.ofInt IntKind.i64.bits ((2 * b : Nat) : Int)).toNat : Int))) w = _
  rw [(bits_adj ⟨b, hb⟩).1]
set_option maxHeartbeats 4000000 in
set_option maxRecDepth 100000 in
theorem rcheck1_s (r : Nat) (hr : r ≤ 6) (x : Int) : SC Tryd.prog 24 [pint x, .lptr [pint ((r + 1 : Nat) : Int)]] (.sc (.bool (decide (¬ gdC (r + 1) x)))) := by
  refine SC.go {} tok mixed Tryd.func24 rfl rfl Tryd.ntmps24 rfl rfl (by kernel_rfl) ?_
  first | simp only [updS] | simp only [updL, Nat.reduceAdd]
  by_cases h : x < 0
  · rw [show decide (¬ gdC (r + 1) x) = true from decide_eq_true (fun e => by have := e.1; omega)]
    repeat (first | refine S0 ?_ | refine S1 ?_ | refine S2 ?_ | refine S7 ?_ | refine S8 ?_ | refine S19 ?_ | refine S20 ?_ | refine S21 ?_ | refine S26 ?_ | refine S29 ?_ | refine S33 ?_ | refine S37 ?_ | refine S38 ?_ | refine S40 ?_ | refine S41 ?_)
    rw [decide_eq_true h]
    exact ⟨.inr rfl, .cl rfl⟩
  · obtain ⟨b, rfl⟩ : ∃ b : Nat, x = b := ⟨x.toNat, by omega⟩
    by_cases h2 : b / 2 ^ r = 0
    · have hlt : b < 2 ^ r := (Nat.div_eq_zero_iff.1 h2).resolve_left (fun e => by have := Nat.pow_pos (n := r) (show 0 < 2 by decide); omega)
      have hb : b < 64 := Nat.lt_of_lt_of_le hlt (by rw [show (64 : Nat) = 2 ^ 6 from rfl]; exact Nat.pow_le_pow_right (by decide) hr)
      have hg : decide (¬ gdC (r + 1) (b : Int)) = !decide ((((b &&& (2 * b)) : Nat) : Int) = 0) := by
        rw [← decide_not]
        exact decide_eq_decide.2 (not_congr ⟨fun e => by have := (bits_adj ⟨b, hb⟩).2.2 e.2.2; simp only at this; omega, fun e => ⟨by omega, by simpa using hlt, (bits_adj ⟨b, hb⟩).2.1 (by simp only; omega)⟩⟩)
      rw [hg]
      repeat (first | refine S0 ?_ | refine S1 ?_ | refine S2 ?_ | refine S7 ?_ | refine S8 ?_ | refine S19 ?_ | refine S20 ?_ | refine S21 ?_ | refine S26 ?_ | refine S29 ?_ | refine S33 ?_ | refine S37 ?_ | refine S38 ?_ | refine S40 ?_ | refine S41 ?_)
      refine AW.binf EVx EVx (bshr b r rfl (by omega) (by omega) _ _ _) ?_
      rw [h2]
      repeat (first | refine S0 ?_ | refine S1 ?_ | refine S2 ?_ | refine S7 ?_ | refine S8 ?_ | refine S19 ?_ | refine S20 ?_ | refine S21 ?_ | refine S26 ?_ | refine S29 ?_ | refine S33 ?_ | refine S37 ?_ | refine S38 ?_ | refine S40 ?_ | refine S41 ?_)
      refine AW.binf EVx EVx (bshl1 b hb _ _ _) ?_
      repeat (first | refine S0 ?_ | refine S1 ?_ | refine S2 ?_ | refine S7 ?_ | refine S8 ?_ | refine S19 ?_ | refine S20 ?_ | refine S21 ?_ | refine S26 ?_ | refine S29 ?_ | refine S33 ?_ | refine S37 ?_ | refine S38 ?_ | refine S40 ?_ | refine S41 ?_)
      refine AW.binf EVx EVx (band2 b hb _ _ _) ?_
      repeat (first | refine S0 ?_ | refine S1 ?_ | refine S2 ?_ | refine S7 ?_ | refine S8 ?_ | refine S19 ?_ | refine S20 ?_ | refine S21 ?_ | refine S26 ?_ | refine S29 ?_ | refine S33 ?_ | refine S37 ?_ | refine S38 ?_ | refine S40 ?_ | refine S41 ?_)
      exact ⟨.inr rfl, .cl rfl⟩
    · rw [show decide (¬ gdC (r + 1) (b : Int)) = true from decide_eq_true (fun e => h2 (Nat.div_eq_of_lt (by simpa using e.2.1)))]
      have h3 : 0 < b / 2 ^ r := Nat.pos_of_ne_zero h2
      repeat (first | refine S0 ?_ | refine S1 ?_ | refine S2 ?_ | refine S7 ?_ | refine S8 ?_ | refine S19 ?_ | refine S20 ?_ | refine S21 ?_ | refine S26 ?_ | refine S29 ?_ | refine S33 ?_ | refine S37 ?_ | refine S38 ?_ | refine S40 ?_ | refine S41 ?_)
      refine AW.binf EVx EVx (bshr b r rfl (by omega) (by omega) _ _ _) ?_
      repeat (first | refine S0 ?_ | refine S1 ?_ | refine S2 ?_ | refine S7 ?_ | refine S8 ?_ | refine S19 ?_ | refine S20 ?_ | refine S21 ?_ | refine S26 ?_ | refine S29 ?_ | refine S33 ?_ | refine S37 ?_ | refine S38 ?_ | refine S40 ?_ | refine S41 ?_)
      exact ⟨.inr rfl, .cl rfl⟩
set_option maxHeartbeats 4000000 in
set_option maxRecDepth 100000 in
theorem rcheck_s (n : Int) (l : List Int) : SC Tryd.prog 11 [pint n, pli l] (pint (chE n l)) := by
  refine SC.go {} tok mixed Tryd.func11 rfl rfl Tryd.ntmps11 rfl rfl (by kernel_rfl) ?_
  first | simp only [updS] | simp only [updL, Nat.reduceAdd]
  by_cases h1 : n < 1
  · rw [show chE n l = 1 from if_pos (.inl h1)]
    repeat (first | refine S0 ?_ | refine S1 ?_ | refine S2 ?_ | refine S4 ?_ | refine S5 ?_ | refine S7 ?_ | refine S8 ?_ | refine S9 ?_ | refine S11 ?_ | refine S12 ?_ | refine S15 ?_ | refine S16 ?_ | refine S19 ?_ | refine S20 ?_ | refine S21 ?_ | refine S23 ?_ | refine S26 ?_ | refine S30 ?_ | refine S37 ?_ | refine S38 ?_ | refine S40 ?_ | refine S41 ?_ | refine S56 ?_ | refine S73 ?_)
    exact ⟨.inr rfl, .cl rfl⟩
  by_cases h2 : 7 < n
  · rw [show chE n l = 1 from if_pos (.inr h2)]
    repeat (first | refine S0 ?_ | refine S1 ?_ | refine S2 ?_ | refine S4 ?_ | refine S5 ?_ | refine S7 ?_ | refine S8 ?_ | refine S9 ?_ | refine S11 ?_ | refine S12 ?_ | refine S15 ?_ | refine S16 ?_ | refine S19 ?_ | refine S20 ?_ | refine S21 ?_ | refine S23 ?_ | refine S26 ?_ | refine S30 ?_ | refine S37 ?_ | refine S38 ?_ | refine S40 ?_ | refine S41 ?_ | refine S56 ?_ | refine S73 ?_)
    exact ⟨.inr rfl, .cl rfl⟩
  have e1 : chE n l = if 5040 < l.length then 2 else if ∀ x ∈ l, gdC n.toNat x then 0 else 3 := if_neg (by omega)
  by_cases h3 : 5040 < l.length
  · rw [e1, if_pos h3]
    repeat (first | refine S0 ?_ | refine S1 ?_ | refine S2 ?_ | refine S4 ?_ | refine S5 ?_ | refine S7 ?_ | refine S8 ?_ | refine S9 ?_ | refine S11 ?_ | refine S12 ?_ | refine S15 ?_ | refine S16 ?_ | refine S19 ?_ | refine S20 ?_ | refine S21 ?_ | refine S23 ?_ | refine S26 ?_ | refine S30 ?_ | refine S37 ?_ | refine S38 ?_ | refine S40 ?_ | refine S41 ?_ | refine S56 ?_ | refine S73 ?_)
    exact ⟨.inr rfl, .cl rfl⟩
  obtain ⟨r, rfl⟩ : ∃ r : Nat, n = ((r + 1 : Nat) : Int) := ⟨n.toNat - 1, by omega⟩
  have kc := bcontains_cap (f := 24) (cap := [.lptr [pint ((r + 1 : Nat) : Int)]]) (p := fun x => gdC (r + 1) x) rfl (fun x => rcheck1_s r (by omega) x) l (by omega)
  rw [Int.toNat_natCast] at e1
  by_cases h4 : ∀ x ∈ l, gdC (r + 1) x
  · rw [e1, if_neg h3, if_pos h4]
    rw [decide_eq_false (fun c => c h4)] at kc
    repeat (first | refine S0 ?_ | refine S1 ?_ | refine S2 ?_ | refine S4 ?_ | refine S5 ?_ | refine S7 ?_ | refine S8 ?_ | refine S9 ?_ | refine S11 ?_ | refine S12 ?_ | refine S15 ?_ | refine S16 ?_ | refine S19 ?_ | refine S20 ?_ | refine S21 ?_ | refine S23 ?_ | refine S26 ?_ | refine S30 ?_ | refine S37 ?_ | refine S38 ?_ | refine S40 ?_ | refine S41 ?_ | refine S56 ?_ | refine S73 ?_)
    refine Scall (args := [pli l, .clo 24 [.lptr [pint ((r + 1 : Nat) : Int)]]]) kc ?_
    repeat (first | refine S0 ?_ | refine S1 ?_ | refine S2 ?_ | refine S4 ?_ | refine S5 ?_ | refine S7 ?_ | refine S8 ?_ | refine S9 ?_ | refine S11 ?_ | refine S12 ?_ | refine S15 ?_ | refine S16 ?_ | refine S19 ?_ | refine S20 ?_ | refine S21 ?_ | refine S23 ?_ | refine S26 ?_ | refine S30 ?_ | refine S37 ?_ | refine S38 ?_ | refine S40 ?_ | refine S41 ?_ | refine S56 ?_ | refine S73 ?_)
    exact ⟨.inr rfl, .cl rfl⟩
  · rw [e1, if_neg h3, if_neg h4]
    rw [decide_eq_true h4] at kc
    repeat (first | refine S0 ?_ | refine S1 ?_ | refine S2 ?_ | refine S4 ?_ | refine S5 ?_ | refine S7 ?_ | refine S8 ?_ | refine S9 ?_ | refine S11 ?_ | refine S12 ?_ | refine S15 ?_ | refine S16 ?_ | refine S19 ?_ | refine S20 ?_ | refine S21 ?_ | refine S23 ?_ | refine S26 ?_ | refine S30 ?_ | refine S37 ?_ | refine S38 ?_ | refine S40 ?_ | refine S41 ?_ | refine S56 ?_ | refine S73 ?_)
    refine Scall (args := [pli l, .clo 24 [.lptr [pint ((r + 1 : Nat) : Int)]]]) kc ?_
    repeat (first | refine S0 ?_ | refine S1 ?_ | refine S2 ?_ | refine S4 ?_ | refine S5 ?_ | refine S7 ?_ | refine S8 ?_ | refine S9 ?_ | refine S11 ?_ | refine S12 ?_ | refine S15 ?_ | refine S16 ?_ | refine S19 ?_ | refine S20 ?_ | refine S21 ?_ | refine S23 ?_ | refine S26 ?_ | refine S30 ?_ | refine S37 ?_ | refine S38 ?_ | refine S40 ?_ | refine S41 ?_ | refine S56 ?_ | refine S73 ?_)
    exact ⟨.inr rfl, .cl rfl⟩
def rkL (n : Nat) (l : List Int) (k : Nat) : List Int := (List.range k).map fun j => rank (rowN n l (j + 1))
@[simp] theorem rkL_len (n : Nat) (l : List Int) (k : Nat) : (rkL n l k).length = k := by simp [rkL]
theorem rkL_succ (n : Nat) (l : List Int) (k : Nat) : rkL n l (k + 1) = rkL n l k ++ [rank (rowN n l (k + 1))] := by simp [rkL, List.range_succ]
end Go.Proofs.YtkmkcbkfakoomaaDoor
