/- Facts and contracts that the claim uses. No condition of its own. -/
import Derived.Test.YtkmkcbkfakoomaaGRingCoursesAD
import Derived.Test.YtkmkcbkfakoomaaGRingCoursesBA
import Derived.Test.YtkmkcbkfakoomaaGRingCoursesBB
import Derived.Test.YtkmkcbkfakoomaaGRingCoursesBC
import Derived.Test.YtkmkcbkfakoomaaGRingCoursesBK
set_option linter.unusedVariables false
set_option linter.unusedSimpArgs false
namespace Go.Proofs.Ytkmkcbkfakoomaa
open Go.RowKit
theorem bcontains_cap {f : FuncId} {cap : List PV} {p : Int → Prop} [DecidablePred p] (hcl : PV.cl.clL cap = true) (h : ∀ x, SC Try.prog f (pint x :: cap) (.sc (.bool (decide (¬ p x))))) (c : List Int) (hl : c.length ≤ 1000000) : SC Try.prog 22 [pli c, .clo f cap] (.sc (.bool (decide (¬ ∀ x ∈ c, p x)))) := by
  by_cases hall : ∀ x ∈ c, p x
  · refine containsFunc_x hcl (indexFunc_none hl hcl (fun k hk => ?_)) (by rw [decide_eq_false (by decide)]; exact (decide_eq_false (fun c => c hall)).symm)
    have := h (c.getD k 0)
    rwa [decide_eq_false (fun c2 => c2 (hall _ (by rw [getD_lt 0 hk]; exact List.getElem_mem hk)))] at this
  · have hex : ∃ k, k < c.length ∧ ¬ p (c.getD k 0) := by
      apply Classical.byContradiction; intro hc
      apply hall
      intro x hx
      obtain ⟨i, hi, rfl⟩ := List.getElem_of_mem hx
      apply Classical.byContradiction; intro h3
      exact hc ⟨i, hi, by rw [getD_lt 0 hi]; exact h3⟩
    obtain ⟨m, ⟨hm, hbad⟩, hmin⟩ := exists_least _ hex
    refine containsFunc_x hcl (indexFunc_some hl hcl hm (fun k hk => ?_) ?_) (by rw [decide_eq_true (by omega)]; exact (decide_eq_true hall).symm)
    · have := h (c.getD k 0)
      have hl2 : p (c.getD k 0) := by
        apply Classical.byContradiction; intro h3
        have := hmin k ⟨by omega, h3⟩
        omega
      rwa [decide_eq_false (fun c2 => c2 hl2)] at this
    · have := h (c.getD m 0)
      rwa [decide_eq_true hbad] at this
theorem Rw.bd {n : Nat} {l : List Int} (h : Rw n l) (hn : n ≤ 9) : ∀ x ∈ l, in64 x := by
  obtain ⟨F, hF, e⟩ := h
  subst e
  intro x hx
  unfold tabN at hx
  obtain ⟨i, hi, rfl⟩ := List.mem_map.1 hx
  have := hF.lt i (List.mem_range.1 hi)
  exact in64_of (by omega)
theorem bshr {x y : Int} (b r : Nat) (hx : x = b) (hy : y = r) (hr : r ≤ 60) (t : TypeId) (p q : Operand) (w : World) : (do eqGuard .shr t p q (.int .i64 x) (.int .i64 y); binOp .shr t (.int .i64 x) (.int .i64 y) : Sem Value).run Try.prog w = .ok (.int .i64 ((b / 2 ^ r : Nat) : Int)) w := by
  subst hx hy; exact bin_shr b r hr t p q w
theorem band1 {x : Int} (b : Nat) (hx : x = b) (hb : b < 64) (t : TypeId) (p q : Operand) (w : World) : (do eqGuard .and t p q (.int .i64 x) (.int .i64 1); binOp .and t (.int .i64 x) (.int .i64 1) : Sem Value).run Try.prog w = .ok (.int .i64 ((b % 2 : Nat) : Int)) w := by
  subst hx; exact bin_and1 b hb t p q w
theorem bshl1 (b : Nat) (hb : b < 64) (t : TypeId) (p q : Operand) (w : World) : (do eqGuard .shl t p q (.int .i64 b) (.int .u64 1); binOp .shl t (.int .i64 b) (.int .u64 1) : Sem Value).run Try.prog w = .ok (.int .i64 ((2 * b : Nat) : Int)) w := by
  have h1 : (eqGuard .shl t p q (.int .i64 b) (.int .u64 1)).run Try.prog w = .ok () w := rfl
  rw [Sem.run_bind, h1]
  have e : ((b : Int) * 2 ^ 1) = ((2 * b : Nat) : Int) := by omega
  have h5 : IntKind.i64.wrap ((2 * b : Nat) : Int) = ((2 * b : Nat) : Int) := w64 (by omega)
  have h3 : ¬ ((1 : Int) < 0) := by omega
  simp only [binOp, Op.shift, IntKind.bits, h3, if_false, Result.andThen_ok]
  show Result.ok (Value.int .i64 (IntKind.i64.wrap ((b : Int) * 2 ^ 1))) w = _
  rw [e, h5]
theorem bits_adj : ∀ b : Fin 64, IntKind.i64.wrap ((BitVec.ofInt IntKind.i64.bits ((b.val : Nat) : Int) &&& BitVec.ofInt IntKind.i64.bits ((2 * b.val : Nat) : Int)).toNat : Int) = (((b.val &&& (2 * b.val)) : Nat) : Int) ∧ (b.val &&& (2 * b.val) = 0 ↔ noAd b.val = true) := by decide +kernel
theorem band2 (b : Nat) (hb : b < 64) (t : TypeId) (p q : Operand) (w : World) : (do eqGuard .and t p q (.int .i64 b) (.int .i64 ((2 * b : Nat) : Int)); binOp .and t (.int .i64 b) (.int .i64 ((2 * b : Nat) : Int)) : Sem Value).run Try.prog w = .ok (.int .i64 (((b &&& (2 * b)) : Nat) : Int)) w := by
  have h1 : (eqGuard .and t p q (.int .i64 b) (.int .i64 ((2 * b : Nat) : Int))).run Try.prog w = .ok () w := rfl
  rw [Sem.run_bind, h1]
  show Result.ok (Value.int .i64 (IntKind.i64.wrap ((BitVec.ofInt IntKind.i64.bits (b : Int) &&& BitVec.ofInt IntKind.i64.bits ((2 * b : Nat) : Int)).toNat : Int))) w = _
  rw [(bits_adj ⟨b, hb⟩).1]
set_option maxHeartbeats 4000000 in
set_option maxRecDepth 100000 in
theorem rcheck1_s (r : Nat) (hr : r ≤ 6) (x : Int) : SC Try.prog 26 [pint x, .lptr [pint ((r + 1 : Nat) : Int)]] (.sc (.bool (decide (¬ gdC (r + 1) x)))) := by
  refine SC.go {} tok mixed Try.func26 rfl rfl Try.ntmps26 rfl rfl (by kernel_rfl) ?_
  first | simp only [updS] | simp only [updL, Nat.reduceAdd]
  by_cases h : x < 0
  · rw [show decide (¬ gdC (r + 1) x) = true from decide_eq_true (fun e => by have := e.1; omega)]
    repeat (first | refine S0 ?_ | refine S1 ?_ | refine S2 ?_ | refine S7 ?_ | refine S8 ?_ | refine S19 ?_ | refine S20 ?_ | refine S21 ?_ | refine S26 ?_ | refine S29 ?_ | refine S33 ?_ | refine S37 ?_ | refine S38 ?_ | refine S40 ?_ | refine S41 ?_)
    rw [decide_eq_true h]
    exact ⟨.inr rfl, .cl rfl⟩
  · obtain ⟨b, rfl⟩ : ∃ b : Nat, x = b := ⟨x.toNat, by omega⟩
    by_cases h2 : b / 2 ^ r = 0
    · have hlt : b < 2 ^ r := (Nat.div_eq_zero_iff.1 h2).resolve_left (fun e => by have := Nat.pow_pos (n := r) (show 0 < 2 by decide); omega)
      have hb : b < 64 := Nat.lt_of_lt_of_le hlt (by rw [show (64 : Nat) = 2 ^ 6 from rfl]; exact Nat.pow_le_pow_right (by decide) hr)
      have hg : decide (¬ gdC (r + 1) (b : Int)) = !decide ((((b &&& (2 * b)) : Nat) : Int) = 0) := by
        rw [← decide_not]
        exact decide_eq_decide.2 (not_congr ⟨fun e => by have := (bits_adj ⟨b, hb⟩).2.2 e.2.2; simp only at this; omega, fun e => ⟨by omega, by simpa using hlt, (bits_adj ⟨b, hb⟩).2.1 (by simp only; omega)⟩⟩)
      rw [hg]
      repeat (first | refine S0 ?_ | refine S1 ?_ | refine S2 ?_ | refine S7 ?_ | refine S8 ?_ | refine S19 ?_ | refine S20 ?_ | refine S21 ?_ | refine S26 ?_ | refine S29 ?_ | refine S33 ?_ | refine S37 ?_ | refine S38 ?_ | refine S40 ?_ | refine S41 ?_)
      refine AW.binf EVx EVx (bshr b r rfl (by omega) (by omega) _ _ _) ?_
      rw [h2]
      repeat (first | refine S0 ?_ | refine S1 ?_ | refine S2 ?_ | refine S7 ?_ | refine S8 ?_ | refine S19 ?_ | refine S20 ?_ | refine S21 ?_ | refine S26 ?_ | refine S29 ?_ | refine S33 ?_ | refine S37 ?_ | refine S38 ?_ | refine S40 ?_ | refine S41 ?_)
      refine AW.binf EVx EVx (bshl1 b hb _ _ _) ?_
      repeat (first | refine S0 ?_ | refine S1 ?_ | refine S2 ?_ | refine S7 ?_ | refine S8 ?_ | refine S19 ?_ | refine S20 ?_ | refine S21 ?_ | refine S26 ?_ | refine S29 ?_ | refine S33 ?_ | refine S37 ?_ | refine S38 ?_ | refine S40 ?_ | refine S41 ?_)
      refine AW.binf EVx EVx (band2 b hb _ _ _) ?_
      repeat (first | refine S0 ?_ | refine S1 ?_ | refine S2 ?_ | refine S7 ?_ | refine S8 ?_ | refine S19 ?_ | refine S20 ?_ | refine S21 ?_ | refine S26 ?_ | refine S29 ?_ | refine S33 ?_ | refine S37 ?_ | refine S38 ?_ | refine S40 ?_ | refine S41 ?_)
      exact ⟨.inr rfl, .cl rfl⟩
    · rw [show decide (¬ gdC (r + 1) (b : Int)) = true from decide_eq_true (fun e => h2 (Nat.div_eq_of_lt (by simpa using e.2.1)))]
      have h3 : 0 < b / 2 ^ r := Nat.pos_of_ne_zero h2
      repeat (first | refine S0 ?_ | refine S1 ?_ | refine S2 ?_ | refine S7 ?_ | refine S8 ?_ | refine S19 ?_ | refine S20 ?_ | refine S21 ?_ | refine S26 ?_ | refine S29 ?_ | refine S33 ?_ | refine S37 ?_ | refine S38 ?_ | refine S40 ?_ | refine S41 ?_)
      refine AW.binf EVx EVx (bshr b r rfl (by omega) (by omega) _ _ _) ?_
      repeat (first | refine S0 ?_ | refine S1 ?_ | refine S2 ?_ | refine S7 ?_ | refine S8 ?_ | refine S19 ?_ | refine S20 ?_ | refine S21 ?_ | refine S26 ?_ | refine S29 ?_ | refine S33 ?_ | refine S37 ?_ | refine S38 ?_ | refine S40 ?_ | refine S41 ?_)
      exact ⟨.inr rfl, .cl rfl⟩
set_option maxHeartbeats 4000000 in
set_option maxRecDepth 100000 in
theorem rcheck_s (n : Int) (l : List Int) : SC Try.prog 7 [pint n, pli l] (pint (chE n l)) := by
  refine SC.go {} tok mixed Try.func7 rfl rfl Try.ntmps7 rfl rfl (by kernel_rfl) ?_
  first | simp only [updS] | simp only [updL, Nat.reduceAdd]
  by_cases h1 : n < 1
  · rw [show chE n l = 1 from if_pos (.inl h1)]
    repeat (first | refine S0 ?_ | refine S1 ?_ | refine S2 ?_ | refine S4 ?_ | refine S5 ?_ | refine S7 ?_ | refine S8 ?_ | refine S9 ?_ | refine S11 ?_ | refine S12 ?_ | refine S15 ?_ | refine S16 ?_ | refine S19 ?_ | refine S20 ?_ | refine S21 ?_ | refine S23 ?_ | refine S26 ?_ | refine S30 ?_ | refine S37 ?_ | refine S38 ?_ | refine S40 ?_ | refine S41 ?_ | refine S56 ?_ | refine S73 ?_)
    exact ⟨.inr rfl, .cl rfl⟩
  by_cases h2 : 7 < n
  · rw [show chE n l = 1 from if_pos (.inr h2)]
    repeat (first | refine S0 ?_ | refine S1 ?_ | refine S2 ?_ | refine S4 ?_ | refine S5 ?_ | refine S7 ?_ | refine S8 ?_ | refine S9 ?_ | refine S11 ?_ | refine S12 ?_ | refine S15 ?_ | refine S16 ?_ | refine S19 ?_ | refine S20 ?_ | refine S21 ?_ | refine S23 ?_ | refine S26 ?_ | refine S30 ?_ | refine S37 ?_ | refine S38 ?_ | refine S40 ?_ | refine S41 ?_ | refine S56 ?_ | refine S73 ?_)
    exact ⟨.inr rfl, .cl rfl⟩
  have e1 : chE n l = if 5040 < l.length then 2 else if ∀ x ∈ l, gdC n.toNat x then 0 else 3 := if_neg (by omega)
  by_cases h3 : 5040 < l.length
  · rw [e1, if_pos h3]
    repeat (first | refine S0 ?_ | refine S1 ?_ | refine S2 ?_ | refine S4 ?_ | refine S5 ?_ | refine S7 ?_ | refine S8 ?_ | refine S9 ?_ | refine S11 ?_ | refine S12 ?_ | refine S15 ?_ | refine S16 ?_ | refine S19 ?_ | refine S20 ?_ | refine S21 ?_ | refine S23 ?_ | refine S26 ?_ | refine S30 ?_ | refine S37 ?_ | refine S38 ?_ | refine S40 ?_ | refine S41 ?_ | refine S56 ?_ | refine S73 ?_)
    exact ⟨.inr rfl, .cl rfl⟩
  obtain ⟨r, rfl⟩ : ∃ r : Nat, n = ((r + 1 : Nat) : Int) := ⟨n.toNat - 1, by omega⟩
  have kc := bcontains_cap (f := 26) (cap := [.lptr [pint ((r + 1 : Nat) : Int)]]) (p := fun x => gdC (r + 1) x) rfl (fun x => rcheck1_s r (by omega) x) l (by omega)
  rw [Int.toNat_natCast] at e1
  by_cases h4 : ∀ x ∈ l, gdC (r + 1) x
  · rw [e1, if_neg h3, if_pos h4]
    rw [decide_eq_false (fun c => c h4)] at kc
    repeat (first | refine S0 ?_ | refine S1 ?_ | refine S2 ?_ | refine S4 ?_ | refine S5 ?_ | refine S7 ?_ | refine S8 ?_ | refine S9 ?_ | refine S11 ?_ | refine S12 ?_ | refine S15 ?_ | refine S16 ?_ | refine S19 ?_ | refine S20 ?_ | refine S21 ?_ | refine S23 ?_ | refine S26 ?_ | refine S30 ?_ | refine S37 ?_ | refine S38 ?_ | refine S40 ?_ | refine S41 ?_ | refine S56 ?_ | refine S73 ?_)
    refine Scall (args := [pli l, .clo 26 [.lptr [pint ((r + 1 : Nat) : Int)]]]) kc ?_
    repeat (first | refine S0 ?_ | refine S1 ?_ | refine S2 ?_ | refine S4 ?_ | refine S5 ?_ | refine S7 ?_ | refine S8 ?_ | refine S9 ?_ | refine S11 ?_ | refine S12 ?_ | refine S15 ?_ | refine S16 ?_ | refine S19 ?_ | refine S20 ?_ | refine S21 ?_ | refine S23 ?_ | refine S26 ?_ | refine S30 ?_ | refine S37 ?_ | refine S38 ?_ | refine S40 ?_ | refine S41 ?_ | refine S56 ?_ | refine S73 ?_)
    exact ⟨.inr rfl, .cl rfl⟩
  · rw [e1, if_neg h3, if_neg h4]
    rw [decide_eq_true h4] at kc
    repeat (first | refine S0 ?_ | refine S1 ?_ | refine S2 ?_ | refine S4 ?_ | refine S5 ?_ | refine S7 ?_ | refine S8 ?_ | refine S9 ?_ | refine S11 ?_ | refine S12 ?_ | refine S15 ?_ | refine S16 ?_ | refine S19 ?_ | refine S20 ?_ | refine S21 ?_ | refine S23 ?_ | refine S26 ?_ | refine S30 ?_ | refine S37 ?_ | refine S38 ?_ | refine S40 ?_ | refine S41 ?_ | refine S56 ?_ | refine S73 ?_)
    refine Scall (args := [pli l, .clo 26 [.lptr [pint ((r + 1 : Nat) : Int)]]]) kc ?_
    repeat (first | refine S0 ?_ | refine S1 ?_ | refine S2 ?_ | refine S4 ?_ | refine S5 ?_ | refine S7 ?_ | refine S8 ?_ | refine S9 ?_ | refine S11 ?_ | refine S12 ?_ | refine S15 ?_ | refine S16 ?_ | refine S19 ?_ | refine S20 ?_ | refine S21 ?_ | refine S23 ?_ | refine S26 ?_ | refine S30 ?_ | refine S37 ?_ | refine S38 ?_ | refine S40 ?_ | refine S41 ?_ | refine S56 ?_ | refine S73 ?_)
    exact ⟨.inr rfl, .cl rfl⟩
theorem AW.bclipR {P : Program} {T : TypeId → TI} {M : Hn} {t : Nat → PV} {h : HP} {cl : Oper → Cls} {ops : Array Oper} {l : List Oper} {K : AS → Prop} {d : Nat} {ty : TypeId} {pos : String} {aft : Array Edge} {tt : TypeId} {x hi mx : Operand} {el bs m tk off : Nat} {zc : List Value} {k1 k2 : IntKind} (hx : evA t x = .ref tk off 1 m) (ht : T tt = .sl el 1 bs zc) (hh : evA t hi = .sc (.int k1 m)) (hm : evA t mx = .sc (.int k2 m))
    (hk : AW P T M cl ops l ⟨upd t d (.ref tk off 1 m), h⟩ K) :
    AW P T M cl ops (⟨some d, .slice tt x none (some hi) (some mx), ty, pos, aft, none⟩ :: l) ⟨t, h⟩ K := by
  have e : PV.ref tk (off + (0 : Int).toNat * 1) 1 ((m : Int).toNat - (0 : Int).toNat) = .ref tk off 1 m := by simp
  refine ⟨.inl ⟨_, (by unfold AX; simp only [GX, DX, slX, hx, ht, hh, hm, boundX]; exact ⟨trivial, trivial, ⟨by omega, by omega, by omega⟩, AX.nil rfl⟩), ?_⟩⟩
  have := hk.out
  rw [← e] at this
  exact this
set_option maxHeartbeats 4000000 in
set_option maxRecDepth 100000 in
theorem bclip_e {t n : Nat} (h : HP) {cs : List PV} (hb : h.blk t = some cs) : SChE Try.prog 35 [.ref t 0 1 n] h (fun r h' => r = .ref t 0 1 n ∧ h' = h) := by
  refine SChE.go {} tok mixed Try.func35 rfl rfl Try.ntmps35 rfl rfl (by kernel_rfl) (fun hw0 => ?_)
  first | simp only [updS] | simp only [updL, Nat.reduceAdd]
  repeat (first | refine S0 ?_ | refine S1 ?_ | refine S2 ?_ | refine S7 ?_ | refine S8 ?_ | refine S19 ?_ | refine S20 ?_ | refine S24 ?_)
  refine AW.bclipR EVx rfl EVx EVx ?_
  repeat (first | refine S0 ?_ | refine S1 ?_ | refine S2 ?_ | refine S7 ?_ | refine S8 ?_ | refine S19 ?_ | refine S20 ?_ | refine S24 ?_)
  exact ⟨.inr rfl, _, ⟨_, rfl, rfl⟩, rfl, rfl⟩
set_option maxHeartbeats 4000000 in
set_option maxRecDepth 100000 in
theorem ring_s {row : List Int} (hr : 1 ≤ row.length ∧ row.length ≤ 7) {c : Nat} (hc : c < 64) : SC Try.prog 43 [pli row, pint (c : Nat)] (pli (rng row c)) := by
  refine SC.go {} tok mixed Try.func43 rfl rfl Try.ntmps43 rfl rfl (by kernel_rfl) ?_
  first | simp only [updS] | simp only [updL, Nat.reduceAdd]
  repeat (first | refine S0 ?_ | refine S1 ?_ | refine S2 ?_ | refine S3 ?_ | refine S4 ?_ | refine S5 ?_ | refine S6 ?_ | refine S7 ?_ | refine S8 ?_ | refine S10 ?_ | refine S11 ?_ | refine S13 ?_ | refine S15 ?_ | refine S16 ?_ | refine S19 ?_ | refine S20 ?_ | refine S21 ?_ | refine S22 ?_ | refine S23 ?_ | refine S27 ?_ | refine S28 ?_ | refine S33 ?_ | refine S46 ?_ | refine S65 ?_)
  refine Scallo (args := [pli row]) (clone_o row (by omega)) ?_
  repeat (first | refine S0 ?_ | refine S1 ?_ | refine S2 ?_ | refine S3 ?_ | refine S4 ?_ | refine S5 ?_ | refine S6 ?_ | refine S7 ?_ | refine S8 ?_ | refine S10 ?_ | refine S11 ?_ | refine S13 ?_ | refine S15 ?_ | refine S16 ?_ | refine S19 ?_ | refine S20 ?_ | refine S21 ?_ | refine S22 ?_ | refine S23 ?_ | refine S27 ?_ | refine S28 ?_ | refine S33 ?_ | refine S46 ?_ | refine S65 ?_)
  refine Scalle (args := [.ref (H0.tok false) 0 1 row.length]) (bclip_e _ (HP.add_same _ _ _)) ?_
  rintro r h' ⟨rfl, rfl⟩
  repeat (first | refine S0 ?_ | refine S1 ?_ | refine S2 ?_ | refine S3 ?_ | refine S4 ?_ | refine S5 ?_ | refine S6 ?_ | refine S7 ?_ | refine S8 ?_ | refine S10 ?_ | refine S11 ?_ | refine S13 ?_ | refine S15 ?_ | refine S16 ?_ | refine S19 ?_ | refine S20 ?_ | refine S21 ?_ | refine S22 ?_ | refine S23 ?_ | refine S27 ?_ | refine S28 ?_ | refine S33 ?_ | refine S46 ?_ | refine S65 ?_)
  refine CW.loopS (fun i : Nat => i + 1 ≤ row.length) (fun i => [(1, pint (c : Nat)), (5, .ref 0 0 1 row.length), (12, pint ((row.length : Nat) - 1)), (13, pint i)]) (fun i hp => hp.blk 0 = some (ints (rgP row c i))) (fun i => 10 - i) 0 ⟨by omega, SLx, (by (try dsimp only); repeat' (first | exact HBx | exact SBx | refine And.intro ?_ ?_))⟩ ?_
  intro i t h hi hB
  first | simp only [updS] | simp only [updL, Nat.reduceAdd]
  by_cases hlt : i + 1 < row.length
  · have hq : c / 2 ^ i < 64 := Nat.lt_of_le_of_lt (Nat.div_le_self _ _) hc
    by_cases hb : bt c i = true
    · have hb1 : c / 2 ^ i % 2 = 1 := by simpa [bt] using hb
      have es : rgP row c (i + 1) = ((rgP row c i).set i ((rgP row c i).getD (i + 1) 0)).set (i + 1) ((rgP row c i).getD i 0) := by simp only [rgP, hb, if_true, swpI]
      have hl := rgP_len row c i
      repeat (first | refine S0 ?_ | refine S1 ?_ | refine S2 ?_ | refine S3 ?_ | refine S4 ?_ | refine S5 ?_ | refine S6 ?_ | refine S7 ?_ | refine S8 ?_ | refine S10 ?_ | refine S11 ?_ | refine S13 ?_ | refine S15 ?_ | refine S16 ?_ | refine S19 ?_ | refine S20 ?_ | refine S21 ?_ | refine S22 ?_ | refine S23 ?_ | refine S27 ?_ | refine S28 ?_ | refine S33 ?_ | refine S46 ?_ | refine S65 ?_)
      refine AW.binf EVx EVx (bshr c i rfl rfl (by omega) _ _ _) ?_
      repeat (first | refine S0 ?_ | refine S1 ?_ | refine S2 ?_ | refine S3 ?_ | refine S4 ?_ | refine S5 ?_ | refine S6 ?_ | refine S7 ?_ | refine S8 ?_ | refine S10 ?_ | refine S11 ?_ | refine S13 ?_ | refine S15 ?_ | refine S16 ?_ | refine S19 ?_ | refine S20 ?_ | refine S21 ?_ | refine S22 ?_ | refine S23 ?_ | refine S27 ?_ | refine S28 ?_ | refine S33 ?_ | refine S46 ?_ | refine S65 ?_)
      refine AW.binf EVx EVx (band1 _ rfl hq _ _ _) ?_
      rw [hb1]
      repeat (first | refine S0 ?_ | refine S1 ?_ | refine S2 ?_ | refine S3 ?_ | refine S4 ?_ | refine S5 ?_ | refine S6 ?_ | refine S7 ?_ | refine S8 ?_ | refine S10 ?_ | refine S11 ?_ | refine S13 ?_ | refine S15 ?_ | refine S16 ?_ | refine S19 ?_ | refine S20 ?_ | refine S21 ?_ | refine S22 ?_ | refine S23 ?_ | refine S27 ?_ | refine S28 ?_ | refine S33 ?_ | refine S46 ?_ | refine S65 ?_)
      refine ⟨i + 1, by omega, SLx, ?_, by omega⟩
      have e1 : ((i : Int) + 1).toNat = i + 1 := by omega
      rw [es]
      simp only [e1, Int.toNat_natCast, Nat.zero_add, Nat.mul_one]
      exact HBx
    · have hb1 : c / 2 ^ i % 2 = 0 := by have : ¬ c / 2 ^ i % 2 = 1 := by simpa [bt] using hb
                                         omega
      have es : rgP row c (i + 1) = rgP row c i := by rw [rgP, if_neg hb]
      repeat (first | refine S0 ?_ | refine S1 ?_ | refine S2 ?_ | refine S3 ?_ | refine S4 ?_ | refine S5 ?_ | refine S6 ?_ | refine S7 ?_ | refine S8 ?_ | refine S10 ?_ | refine S11 ?_ | refine S13 ?_ | refine S15 ?_ | refine S16 ?_ | refine S19 ?_ | refine S20 ?_ | refine S21 ?_ | refine S22 ?_ | refine S23 ?_ | refine S27 ?_ | refine S28 ?_ | refine S33 ?_ | refine S46 ?_ | refine S65 ?_)
      refine AW.binf EVx EVx (bshr c i rfl rfl (by omega) _ _ _) ?_
      repeat (first | refine S0 ?_ | refine S1 ?_ | refine S2 ?_ | refine S3 ?_ | refine S4 ?_ | refine S5 ?_ | refine S6 ?_ | refine S7 ?_ | refine S8 ?_ | refine S10 ?_ | refine S11 ?_ | refine S13 ?_ | refine S15 ?_ | refine S16 ?_ | refine S19 ?_ | refine S20 ?_ | refine S21 ?_ | refine S22 ?_ | refine S23 ?_ | refine S27 ?_ | refine S28 ?_ | refine S33 ?_ | refine S46 ?_ | refine S65 ?_)
      refine AW.binf EVx EVx (band1 _ rfl hq _ _ _) ?_
      rw [hb1]
      repeat (first | refine S0 ?_ | refine S1 ?_ | refine S2 ?_ | refine S3 ?_ | refine S4 ?_ | refine S5 ?_ | refine S6 ?_ | refine S7 ?_ | refine S8 ?_ | refine S10 ?_ | refine S11 ?_ | refine S13 ?_ | refine S15 ?_ | refine S16 ?_ | refine S19 ?_ | refine S20 ?_ | refine S21 ?_ | refine S22 ?_ | refine S23 ?_ | refine S27 ?_ | refine S28 ?_ | refine S33 ?_ | refine S46 ?_ | refine S65 ?_)
      exact ⟨i + 1, by omega, SLx, by dsimp only; rw [es]; exact hB, by omega⟩
  · have e : rng row c = rgP row c i := by unfold rng; rw [show row.length - 1 = i by omega]
    rw [e]
    have hl := rgP_len row c i
    repeat (first | refine S0 ?_ | refine S1 ?_ | refine S2 ?_ | refine S3 ?_ | refine S4 ?_ | refine S5 ?_ | refine S6 ?_ | refine S7 ?_ | refine S8 ?_ | refine S10 ?_ | refine S11 ?_ | refine S13 ?_ | refine S15 ?_ | refine S16 ?_ | refine S19 ?_ | refine S20 ?_ | refine S21 ?_ | refine S22 ?_ | refine S23 ?_ | refine S27 ?_ | refine S28 ?_ | refine S33 ?_ | refine S46 ?_ | refine S65 ?_)
    exact ⟨.inr rfl, Fz.refI hB hl.symm rfl⟩
theorem rowsL_get {n : Nat} {l : List Int} {k j : Nat} (h : j ≤ k) : (rowsL n l k).getD j [] = rowN n l j := by
  simp [rowsL, List.getD, show j < k + 1 by omega]
set_option maxHeartbeats 4000000 in
set_option maxRecDepth 100000 in
theorem rrows_s {n : Nat} (hn : 1 ≤ n ∧ n ≤ 7) {l : List Int} (hl : l.length ≤ 5040) (hg : ∀ x ∈ l, gdC n x) : SC Try.prog 27 [pint n, pli l] (.lst true 1 (l.length + 1) ((rowsL n l l.length).map pli)) := by
  have hid := identity_s n (by omega)
  refine SC.go { mt := [10] } tok mixed Try.func27 rfl rfl Try.ntmps27 rfl rfl (by kernel_rfl) ?_
  first | simp only [updS] | simp only [updL, Nat.reduceAdd]
  repeat (first | refine S0 ?_ | refine S1 ?_ | refine S2 ?_ | refine S4 ?_ | refine S5 ?_ | refine S6 ?_ | refine S7 ?_ | refine S8 ?_ | refine S10 ?_ | refine S11 ?_ | refine S13 ?_ | refine S15 ?_ | refine S16 ?_ | refine S19 ?_ | refine S20 ?_ | refine S21 ?_ | refine S22 ?_ | refine S23 ?_ | refine S24 ?_ | refine S25 ?_ | refine S26 ?_ | refine S27 ?_ | refine S33 ?_ | refine S46 ?_ | refine S49 ?_ | refine S50 ?_ | refine S63 ?_)
  refine Scall (args := [pint n]) hid ?_
  repeat (first | refine S0 ?_ | refine S1 ?_ | refine S2 ?_ | refine S4 ?_ | refine S5 ?_ | refine S6 ?_ | refine S7 ?_ | refine S8 ?_ | refine S10 ?_ | refine S11 ?_ | refine S13 ?_ | refine S15 ?_ | refine S16 ?_ | refine S19 ?_ | refine S20 ?_ | refine S21 ?_ | refine S22 ?_ | refine S23 ?_ | refine S24 ?_ | refine S25 ?_ | refine S26 ?_ | refine S27 ?_ | refine S33 ?_ | refine S46 ?_ | refine S49 ?_ | refine S50 ?_ | refine S63 ?_)
  refine CW.loopS (fun i : Nat × Nat => i.1 ≤ l.length ∧ i.2 % 2 = 0) (fun i => [(0, pint n), (5, .ref i.2 0 1 (i.1 + 1)), (11, pli l), (12, pint l.length), (13, pint i.1)])
      (fun i h => h.blk i.2 = some ((rowsL n l i.1).map pli) ∧ i.2 < 2 * h.next) (fun i => l.length - i.1) (0, 0) ⟨⟨Nat.zero_le _, rfl⟩, SLx, HBx, (by first | omega | (simp only [HP.tokF, HP.tokT, HP.next_add, HP.next_set, HP.next_kill, HP.next_H0, HP.next_addS, HP.next_setS, HP.next_killS, HP.next_put, HP.next_bump, HP.next_putS]; omega))⟩ ?_
  rintro ⟨k, T⟩ t hp ⟨hk, hT2⟩ ⟨hB, hTl⟩
  simp only at hk hT2 hB hTl
  first | simp only [updS] | simp only [updL, Nat.reduceAdd]
  by_cases hk2 : k < l.length
  · have hgk := gdC_lt (hg (l.getD k 0) (by rw [getD_lt 0 hk2]; exact List.getElem_mem hk2)) hn.2
    have hrl : (rowN n l k).length = n := (rowN_rw l hn.1 k).len
    obtain ⟨c, hc⟩ : ∃ c : Nat, l.getD k 0 = c := ⟨(l.getD k 0).toNat, by omega⟩
    have hrs := ring_s (row := rowN n l k) (by omega) (c := c) (by omega)
    have hrn : rng (rowN n l k) c = rowN n l (k + 1) := by show _ = rng (rowN n l k) (l.getD k 0).toNat; rw [hc]; rfl
    rw [hrn] at hrs
    have hsl : (rowsL n l k).length = k + 1 := rowsL_len _ _ _
    repeat (first | refine S0 ?_ | refine S1 ?_ | refine S2 ?_ | refine S4 ?_ | refine S5 ?_ | refine S6 ?_ | refine S7 ?_ | refine S8 ?_ | refine S10 ?_ | refine S11 ?_ | refine S13 ?_ | refine S15 ?_ | refine S16 ?_ | refine S19 ?_ | refine S20 ?_ | refine S21 ?_ | refine S22 ?_ | refine S23 ?_ | refine S24 ?_ | refine S25 ?_ | refine S26 ?_ | refine S27 ?_ | refine S33 ?_ | refine S46 ?_ | refine S49 ?_ | refine S50 ?_ | refine S63 ?_)
    rw [show (((k + 1 : Nat) : Int) - 1).toNat = k by omega, rowsL_get (Nat.le_refl k), hc]
    refine Scall (args := [pli (rowN n l k), pint (c : Nat)]) hrs ?_
    have es := rowsL_succ n l k
    repeat (first | refine S0 ?_ | refine S1 ?_ | refine S2 ?_ | refine S4 ?_ | refine S5 ?_ | refine S6 ?_ | refine S7 ?_ | refine S8 ?_ | refine S10 ?_ | refine S11 ?_ | refine S13 ?_ | refine S15 ?_ | refine S16 ?_ | refine S19 ?_ | refine S20 ?_ | refine S21 ?_ | refine S22 ?_ | refine S23 ?_ | refine S24 ?_ | refine S25 ?_ | refine S26 ?_ | refine S27 ?_ | refine S33 ?_ | refine S46 ?_ | refine S49 ?_ | refine S50 ?_ | refine S63 ?_)
    refine ⟨(k + 1, hp.tok false), ⟨by simp only; omega, HP.tok_even _⟩, SLx, ⟨?_, ?_⟩, by simp only; omega⟩
    · simp only
      rw [es, List.map_append]
      exact HBx
    · exact (by first | omega | (simp only [HP.tokF, HP.tokT, HP.next_add, HP.next_set, HP.next_kill, HP.next_H0, HP.next_addS, HP.next_setS, HP.next_killS, HP.next_put, HP.next_bump, HP.next_putS]; omega))
  · obtain rfl : k = l.length := by omega
    refine CW.freeze 5 (tk := T) (off := 0) (sz := 1) (m := l.length + 1) (v := plls (rowsL n l l.length)) rfl hB (by simp) (by
      unfold plls
      rw [List.drop_zero, Nat.mul_one, List.take_of_length_le (by simp), rowsL_len]) ?_
    have kcl : PV.cl.clL ((rowsL n l l.length).map pli) = true := by have := plls_cl (rowsL n l l.length); simpa [plls, PV.cl] using this
    have kc := clipL_s (b := false) (n := l.length + 1) (cs := (rowsL n l l.length).map pli) (by simp) kcl
    repeat (first | refine S0 ?_ | refine S1 ?_ | refine S2 ?_ | refine S4 ?_ | refine S5 ?_ | refine S6 ?_ | refine S7 ?_ | refine S8 ?_ | refine S10 ?_ | refine S11 ?_ | refine S13 ?_ | refine S15 ?_ | refine S16 ?_ | refine S19 ?_ | refine S20 ?_ | refine S21 ?_ | refine S22 ?_ | refine S23 ?_ | refine S24 ?_ | refine S25 ?_ | refine S26 ?_ | refine S27 ?_ | refine S33 ?_ | refine S46 ?_ | refine S49 ?_ | refine S50 ?_ | refine S63 ?_)
    refine Scall (args := [plls (rowsL n l l.length)]) (by unfold plls; rw [rowsL_len]; exact kc) ?_
    repeat (first | refine S0 ?_ | refine S1 ?_ | refine S2 ?_ | refine S4 ?_ | refine S5 ?_ | refine S6 ?_ | refine S7 ?_ | refine S8 ?_ | refine S10 ?_ | refine S11 ?_ | refine S13 ?_ | refine S15 ?_ | refine S16 ?_ | refine S19 ?_ | refine S20 ?_ | refine S21 ?_ | refine S22 ?_ | refine S23 ?_ | refine S24 ?_ | refine S25 ?_ | refine S26 ?_ | refine S27 ?_ | refine S33 ?_ | refine S46 ?_ | refine S49 ?_ | refine S50 ?_ | refine S63 ?_)
    exact ⟨.inr rfl, .cl (show (PV.lst true 1 (l.length + 1) ((rowsL n l l.length).map pli)).cl = true by simp only [PV.cl, kcl, Bool.and_true, Bool.true_and])⟩
set_option maxHeartbeats 4000000 in
set_option maxRecDepth 100000 in
theorem Rows_bad {n : Int} {l : List Int} (h0 : chE n l ≠ 0) : SC Try.prog 8 [pint n, pli l] (.tup [.lst true 0 0 [], pint (chE n l)]) := by
  have kc := rcheck_s n l
  refine SC.go {} tok mixed Try.func8 rfl rfl Try.ntmps8 rfl rfl (by kernel_rfl) ?_
  first | simp only [updS] | simp only [updL, Nat.reduceAdd]
  repeat (first | refine S0 ?_ | refine S1 ?_ | refine S2 ?_ | refine S7 ?_ | refine S8 ?_ | refine S9 ?_ | refine S15 ?_ | refine S19 ?_ | refine S20 ?_ | refine S29 ?_)
  refine Scall (args := [pint n, pli l]) kc ?_
  repeat (first | refine S0 ?_ | refine S1 ?_ | refine S2 ?_ | refine S7 ?_ | refine S8 ?_ | refine S9 ?_ | refine S15 ?_ | refine S19 ?_ | refine S20 ?_ | refine S29 ?_)
  exact ⟨.inr rfl, .cl rfl⟩
set_option maxHeartbeats 4000000 in
set_option maxRecDepth 100000 in
theorem Rows_ok {n : Nat} {l : List Int} (h0 : chE n l = 0) : SC Try.prog 8 [pint n, pli l] (.tup [.lst true 1 (l.length + 1) ((rowsL n l l.length).map pli), pint 0]) := by
  have kc := rcheck_s n l
  rw [h0] at kc
  obtain ⟨h1, h2, h3, h4⟩ := chE_ok h0
  have kr := rrows_s (n := n) (by omega) h3 (by simpa using h4)
  have kcl : PV.cl.clL ((rowsL n l l.length).map pli) = true := by have := plls_cl (rowsL n l l.length); simpa [plls, PV.cl] using this
  refine SC.go {} tok mixed Try.func8 rfl rfl Try.ntmps8 rfl rfl (by kernel_rfl) ?_
  first | simp only [updS] | simp only [updL, Nat.reduceAdd]
  repeat (first | refine S0 ?_ | refine S1 ?_ | refine S2 ?_ | refine S5 ?_ | refine S7 ?_ | refine S8 ?_ | refine S16 ?_ | refine S19 ?_ | refine S20 ?_ | refine S29 ?_)
  refine Scall (args := [pint n, pli l]) kc ?_
  repeat (first | refine S0 ?_ | refine S1 ?_ | refine S2 ?_ | refine S5 ?_ | refine S7 ?_ | refine S8 ?_ | refine S16 ?_ | refine S19 ?_ | refine S20 ?_ | refine S29 ?_)
  refine Scall (args := [pint n, pli l]) kr ?_
  repeat (first | refine S0 ?_ | refine S1 ?_ | refine S2 ?_ | refine S5 ?_ | refine S7 ?_ | refine S8 ?_ | refine S16 ?_ | refine S19 ?_ | refine S20 ?_ | refine S29 ?_)
  exact ⟨.inr rfl, Fz.pair (.cl (show (PV.lst true 1 (l.length + 1) ((rowsL n l l.length).map pli)).cl = true by simp only [PV.cl, kcl, Bool.and_true, Bool.true_and])) (.cl rfl)⟩
set_option maxHeartbeats 4000000 in
set_option maxRecDepth 100000 in
theorem lead_bad {n : Int} {l : List Int} (h0 : chE n l ≠ 0) : SC Try.prog 10 [pint n, pli l] (.tup [pli [], pint (chE n l)]) := by
  have kc := Rows_bad h0
  refine SC.go {} tok mixed Try.func10 rfl rfl Try.ntmps10 rfl rfl (by kernel_rfl) ?_
  first | simp only [updS] | simp only [updL, Nat.reduceAdd]
  repeat (first | refine S0 ?_ | refine S1 ?_ | refine S2 ?_ | refine S7 ?_ | refine S8 ?_ | refine S9 ?_ | refine S15 ?_ | refine S19 ?_ | refine S20 ?_ | refine S29 ?_ | refine S34 ?_)
  refine Scall (args := [pint n, pli l]) kc ?_
  repeat (first | refine S0 ?_ | refine S1 ?_ | refine S2 ?_ | refine S7 ?_ | refine S8 ?_ | refine S9 ?_ | refine S15 ?_ | refine S19 ?_ | refine S20 ?_ | refine S29 ?_ | refine S34 ?_)
  exact ⟨.inr rfl, Fz.pair (.nrm rfl) (.cl rfl)⟩
set_option maxHeartbeats 4000000 in
set_option maxRecDepth 100000 in
theorem lead_ok {n : Nat} {l : List Int} (h0 : chE n l = 0) : SC Try.prog 10 [pint n, pli l] (.tup [pli (rowN n l l.length), pint 0]) := by
  have kc := Rows_ok h0
  have hsl : (rowsL n l l.length).length = l.length + 1 := rowsL_len _ _ _
  obtain ⟨h1, h2, h3, h4⟩ := chE_ok h0
  refine SC.go {} tok mixed Try.func10 rfl rfl Try.ntmps10 rfl rfl (by kernel_rfl) ?_
  first | simp only [updS] | simp only [updL, Nat.reduceAdd]
  repeat (first | refine S0 ?_ | refine S1 ?_ | refine S2 ?_ | refine S5 ?_ | refine S7 ?_ | refine S8 ?_ | refine S16 ?_ | refine S19 ?_ | refine S20 ?_ | refine S23 ?_ | refine S25 ?_ | refine S26 ?_ | refine S29 ?_ | refine S33 ?_ | refine S34 ?_)
  refine Scall (args := [pint n, pli l]) kc ?_
  repeat (first | refine S0 ?_ | refine S1 ?_ | refine S2 ?_ | refine S5 ?_ | refine S7 ?_ | refine S8 ?_ | refine S16 ?_ | refine S19 ?_ | refine S20 ?_ | refine S23 ?_ | refine S25 ?_ | refine S26 ?_ | refine S29 ?_ | refine S33 ?_ | refine S34 ?_)
  rw [show (((l.length + 1 : Nat) : Int) - 1).toNat = l.length by omega, rowsL_get (Nat.le_refl _)]
  exact ⟨.inr rfl, Fz.pair (.cl (pli_cl _)) (.cl rfl)⟩
def rkL (n : Nat) (l : List Int) (k : Nat) : List Int := (List.range k).map fun j => rank (rowN n l (j + 1))
@[simp] theorem rkL_len (n : Nat) (l : List Int) (k : Nat) : (rkL n l k).length = k := by simp [rkL]
theorem rkL_succ (n : Nat) (l : List Int) (k : Nat) : rkL n l (k + 1) = rkL n l k ++ [rank (rowN n l (k + 1))] := by simp [rkL, List.range_succ]
theorem bpermFault_of {xs : List Int} (hr : InRange xs) (hd : xs.Nodup) (h9 : xs.length ≤ 9) : permFault xs = 0 := by
  refine permFault_ok h9 fun j hj => ?_
  have h1 := hr j hj
  rw [getD_lt 0 hj] at h1
  refine pfAt_zero hj h1 fun hm => ?_
  obtain ⟨i, hi, e⟩ := List.mem_iff_getElem.1 hm
  have hi' : i < j := by simp at hi; omega
  rw [List.getElem_take] at e
  exact List.pairwise_iff_getElem.1 hd i j (by omega) hj hi' e
end Go.Proofs.Ytkmkcbkfakoomaa
