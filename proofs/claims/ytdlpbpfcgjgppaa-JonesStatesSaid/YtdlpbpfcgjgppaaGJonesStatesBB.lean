/- Facts and contracts that the claim uses. No condition of its own. -/
import Derived.Test.YtdlpbpfcgjgppaaGJonesStatesAY
import Derived.Test.YtdlpbpfcgjgppaaGJonesStatesBA
import Derived.Test.YtdlpbpfcgjgppaaGJonesStatesAU
set_option linter.unusedVariables false
set_option linter.unusedSimpArgs false
namespace Go.Proofs.Ytdlpbpfcgjgppaa
open Go.RowKit
/-! ### arithmetic that wraps -/
abbrev wrp (x : Int) : Int := IntKind.i64.wrap x
theorem wrp_eq {a b : Int} (k : Int) (h : a = b + k * 18446744073709551616) : wrp a = wrp b := by
  unfold wrp
  rw [IntKind.wrap_i64, IntKind.wrap_i64]; omega
theorem wrp_ex (a : Int) : ∃ k, wrp a = a + k * 18446744073709551616 := by
  unfold wrp
  rw [IntKind.wrap_i64]
  exact ⟨-((a + 9223372036854775808) / 18446744073709551616), by omega⟩
theorem wrp_wrp (a : Int) : wrp (wrp a) = wrp a := by
  obtain ⟨k, h⟩ := wrp_ex a
  exact wrp_eq k h
theorem wrp_addl (a b : Int) : wrp (wrp a + b) = wrp (a + b) := by
  obtain ⟨k, h⟩ := wrp_ex a
  exact wrp_eq k (by rw [h]; omega)
theorem wrp_addr (a b : Int) : wrp (a + wrp b) = wrp (a + b) := by rw [Int.add_comm, wrp_addl, Int.add_comm]
theorem wrp_mull (a b : Int) : wrp (wrp a * b) = wrp (a * b) := by
  obtain ⟨k, h⟩ := wrp_ex a
  exact wrp_eq (k * b) (by rw [h, Int.add_mul, Int.mul_right_comm])
theorem wrp_mulr (a b : Int) : wrp (a * wrp b) = wrp (a * b) := by rw [Int.mul_comm, wrp_mull, Int.mul_comm]
theorem wrp_in {z : Int} (h : in64 z) : wrp z = z := wrap_in h
theorem wrp_64 (z : Int) : in64 (wrp z) := by unfold wrp in64; rw [IntKind.wrap_i64]; omega
theorem wrp_sum {n : Nat} {lo : Int} {F G : Int → Int} (h : ∀ i, lo ≤ i → i < lo + n → wrp (F i) = wrp (G i)) : wrp (sI lo n F) = wrp (sI lo n G) := by
  induction n with
  | zero => rfl
  | succ n ih =>
    simp only [sI]
    rw [← wrp_addl, ← wrp_addr, ih (fun i h1 h2 => h i h1 (by omega)), h (lo + n) (by omega) (by omega), wrp_addr, wrp_addl]
section
variable {P : Program} {T : TypeId → TI} {M : Hn} {cl : Oper → Cls} {ops : Array Oper} {l : List Oper} {t : Nat → PV} {h : HP} {K : AS → Prop} {d : Nat} {ty : TypeId} {pos : String} {aft : Array Edge}
theorem AW.addV {tt t2 : TypeId} {x y : Operand} {a b : Int} (hx : evA t x = .sc (.int .i64 a)) (hy : evA t y = .sc (.int .i64 b)) (hk : AW P T M cl ops l ⟨upd t d (.sc (.int .i64 (wrp (a + b)))), h⟩ K) : AW P T M cl ops (⟨some d, .binOp .add tt x y t2, ty, pos, aft, none⟩ :: l) ⟨t, h⟩ K :=
  AW.binf (vx := .int .i64 a) (vy := .int .i64 b) (by rw [hx]; rfl) (by rw [hy]; rfl) (fun w => by simp [eqGuard, binOp, Op.intArith]) hk
theorem AW.mulV {tt t2 : TypeId} {x y : Operand} {a b : Int} (hx : evA t x = .sc (.int .i64 a)) (hy : evA t y = .sc (.int .i64 b)) (hk : AW P T M cl ops l ⟨upd t d (.sc (.int .i64 (wrp (a * b)))), h⟩ K) : AW P T M cl ops (⟨some d, .binOp .mul tt x y t2, ty, pos, aft, none⟩ :: l) ⟨t, h⟩ K :=
  AW.binf (vx := .int .i64 a) (vy := .int .i64 b) (by rw [hx]; rfl) (by rw [hy]; rfl) (fun w => by simp [eqGuard, binOp, Op.intArith]) hk
end
theorem acc_setW {low : Int} {n : Nat} {G G' : Int → Int} {zs : List Int} (hzs : zs = tab n (fun j => wrp (G (low + j)))) {q : Nat} {e v : Int} (hq : (q : Int) = e - low) (h2 : e < low + n) (hG : ∀ x, G' x = G x + if x = e then v else 0) : zs.set q (wrp (zs.getD q 0 + v)) = tab n (fun j => wrp (G' (low + j))) := by
  have hg : zs.getD q 0 = wrp (G e) := acc_get (G := fun x => wrp (G x)) hzs hq h2
  rw [hg, wrp_addl]
  subst hzs
  rw [tab_set]
  refine tab_congr (fun i hi => ?_)
  rw [hG]
  by_cases c : i = q
  · subst c
    rw [if_pos rfl, show low + (i : Int) = e by omega, if_pos rfl]
  · rw [if_neg c, if_neg (by omega), Int.add_zero]
theorem co_tabW {low : Int} {n : Nat} {F : Int → Int} (h : ∀ e, F e ≠ 0 → low ≤ e ∧ e < low + n) : co (low, tab n (fun j => wrp (F (low + j)))) = fun e => wrp (F e) :=
  co_tab (F := fun e => wrp (F e)) (fun e he => h e (fun hh => he (by simp only [hh]; rfl)))
set_option maxHeartbeats 8000000 in
set_option maxRecDepth 100000 in
theorem plusG_s (a b : Po) (k : Int) (hla : -100000 ≤ a.1 ∧ a.1 ≤ 100000) (hlb : -100000 ≤ b.1 ∧ b.1 ≤ 100000) (hca : a.2.length ≤ 100000) (hcb : b.2.length ≤ 100000) :
    SC Try.prog 39 [ppo a, ppo b, pint k] (ppo (cano (fun e => wrp (co a e + k * co b e)))) := by
  obtain ⟨la0, ca⟩ := a
  obtain ⟨lb0, cb⟩ := b
  simp only at hla hlb hca hcb
  refine SC.go {mt := [3, 4]} tok mixed Try.func39 rfl rfl Try.ntmps39 rfl rfl (by kernel_rfl) ?_
  first | simp only [updS] | simp only [updL, Nat.reduceAdd]
  repeat (first | refine S0 ?_ | refine S1 ?_ | refine S2 ?_ | refine S4 ?_ | refine S5 ?_ | refine S6 ?_ | refine S7 ?_ | refine S8 ?_ | refine S10 ?_ | refine S11 ?_ | refine S13 ?_ | refine S15 ?_ | refine S16 ?_ | refine S19 ?_ | refine S20 ?_ | refine S21 ?_ | refine S22 ?_ | refine S23 ?_ | refine S25 ?_ | refine S26 ?_ | refine S27 ?_ | refine S28 ?_ | refine S33 ?_ | refine S42 ?_ | refine S45 ?_ | refine S46 ?_ | refine S54 ?_ | refine S55 ?_ | refine S65 ?_ | refine S66 ?_ | refine S68 ?_ | refine S71 ?_)
  refine CW.midS (fun la : Int => (-100000 ≤ la ∧ la ≤ 100000) ∧ (ca = [] ∨ la0 = la)) (fun la => [(2, pint k), (3, .ptr 1 0), (4, .ptr 3 0), (6, .ptr 5 0)]) (fun la hp => hp.next = 3 ∧ hp.blk 1 = some [pint la, pli ca] ∧ hp.blk 3 = some [pint lb0, pli cb] ∧ hp.blk 5 = some [pint 0, .lst true 0 0 []]) ?_ ?_
  · by_cases c1 : ca.length = 0
    · repeat (first | refine S0 ?_ | refine S1 ?_ | refine S2 ?_ | refine S4 ?_ | refine S5 ?_ | refine S6 ?_ | refine S7 ?_ | refine S8 ?_ | refine S10 ?_ | refine S11 ?_ | refine S13 ?_ | refine S15 ?_ | refine S16 ?_ | refine S19 ?_ | refine S20 ?_ | refine S21 ?_ | refine S22 ?_ | refine S23 ?_ | refine S25 ?_ | refine S26 ?_ | refine S27 ?_ | refine S28 ?_ | refine S33 ?_ | refine S42 ?_ | refine S45 ?_ | refine S46 ?_ | refine S54 ?_ | refine S55 ?_ | refine S65 ?_ | refine S66 ?_ | refine S68 ?_ | refine S71 ?_)
      refine ⟨lb0, ⟨hlb, .inl (List.length_eq_zero_iff.1 c1)⟩, SLx, rfl, (by (try dsimp only); repeat' (first | exact HBx | exact SBx | refine And.intro ?_ ?_))⟩
    · repeat (first | refine S0 ?_ | refine S1 ?_ | refine S2 ?_ | refine S4 ?_ | refine S5 ?_ | refine S6 ?_ | refine S7 ?_ | refine S8 ?_ | refine S10 ?_ | refine S11 ?_ | refine S13 ?_ | refine S15 ?_ | refine S16 ?_ | refine S19 ?_ | refine S20 ?_ | refine S21 ?_ | refine S22 ?_ | refine S23 ?_ | refine S25 ?_ | refine S26 ?_ | refine S27 ?_ | refine S28 ?_ | refine S33 ?_ | refine S42 ?_ | refine S45 ?_ | refine S46 ?_ | refine S54 ?_ | refine S55 ?_ | refine S65 ?_ | refine S66 ?_ | refine S68 ?_ | refine S71 ?_)
      refine ⟨la0, ⟨hla, .inr rfl⟩, SLx, rfl, (by (try dsimp only); repeat' (first | exact HBx | exact SBx | refine And.intro ?_ ?_))⟩
  rintro la t h ⟨hla2, ela⟩ ⟨hN, b1, b3, b5⟩
  first | simp only [updS] | simp only [updL, Nat.reduceAdd]
  repeat (first | refine S0 ?_ | refine S1 ?_ | refine S2 ?_ | refine S4 ?_ | refine S5 ?_ | refine S6 ?_ | refine S7 ?_ | refine S8 ?_ | refine S10 ?_ | refine S11 ?_ | refine S13 ?_ | refine S15 ?_ | refine S16 ?_ | refine S19 ?_ | refine S20 ?_ | refine S21 ?_ | refine S22 ?_ | refine S23 ?_ | refine S25 ?_ | refine S26 ?_ | refine S27 ?_ | refine S28 ?_ | refine S33 ?_ | refine S42 ?_ | refine S45 ?_ | refine S46 ?_ | refine S54 ?_ | refine S55 ?_ | refine S65 ?_ | refine S66 ?_ | refine S68 ?_ | refine S71 ?_)
  refine CW.midS (fun lb : Int => (-100000 ≤ lb ∧ lb ≤ 100000) ∧ (cb = [] ∨ lb0 = lb)) (fun lb => [(2, pint k), (3, .ptr 1 0), (4, .ptr 3 0), (6, .ptr 5 0)]) (fun lb hp => hp.next = 3 ∧ hp.blk 1 = some [pint la, pli ca] ∧ hp.blk 3 = some [pint lb, pli cb] ∧ hp.blk 5 = some [pint 0, .lst true 0 0 []]) ?_ ?_
  · by_cases c1 : cb.length = 0
    · repeat (first | refine S0 ?_ | refine S1 ?_ | refine S2 ?_ | refine S4 ?_ | refine S5 ?_ | refine S6 ?_ | refine S7 ?_ | refine S8 ?_ | refine S10 ?_ | refine S11 ?_ | refine S13 ?_ | refine S15 ?_ | refine S16 ?_ | refine S19 ?_ | refine S20 ?_ | refine S21 ?_ | refine S22 ?_ | refine S23 ?_ | refine S25 ?_ | refine S26 ?_ | refine S27 ?_ | refine S28 ?_ | refine S33 ?_ | refine S42 ?_ | refine S45 ?_ | refine S46 ?_ | refine S54 ?_ | refine S55 ?_ | refine S65 ?_ | refine S66 ?_ | refine S68 ?_ | refine S71 ?_)
      refine ⟨la, ⟨hla2, .inl (List.length_eq_zero_iff.1 c1)⟩, SLx, hN, (by (try dsimp only); repeat' (first | exact HBx | exact SBx | refine And.intro ?_ ?_))⟩
    · repeat (first | refine S0 ?_ | refine S1 ?_ | refine S2 ?_ | refine S4 ?_ | refine S5 ?_ | refine S6 ?_ | refine S7 ?_ | refine S8 ?_ | refine S10 ?_ | refine S11 ?_ | refine S13 ?_ | refine S15 ?_ | refine S16 ?_ | refine S19 ?_ | refine S20 ?_ | refine S21 ?_ | refine S22 ?_ | refine S23 ?_ | refine S25 ?_ | refine S26 ?_ | refine S27 ?_ | refine S28 ?_ | refine S33 ?_ | refine S42 ?_ | refine S45 ?_ | refine S46 ?_ | refine S54 ?_ | refine S55 ?_ | refine S65 ?_ | refine S66 ?_ | refine S68 ?_ | refine S71 ?_)
      refine ⟨lb0, ⟨hlb, .inr rfl⟩, SLx, hN, (by (try dsimp only); repeat' (first | exact HBx | exact SBx | refine And.intro ?_ ?_))⟩
  clear b1 b3 b5 hN t h
  rintro lb t h ⟨hlb2, elb⟩ ⟨hN, b1, b3, b5⟩
  rw [co_moved ela, co_moved elb]
  first | simp only [updS] | simp only [updL, Nat.reduceAdd]
  repeat (first | refine S0 ?_ | refine S1 ?_ | refine S2 ?_ | refine S4 ?_ | refine S5 ?_ | refine S6 ?_ | refine S7 ?_ | refine S8 ?_ | refine S10 ?_ | refine S11 ?_ | refine S13 ?_ | refine S15 ?_ | refine S16 ?_ | refine S19 ?_ | refine S20 ?_ | refine S21 ?_ | refine S22 ?_ | refine S23 ?_ | refine S25 ?_ | refine S26 ?_ | refine S27 ?_ | refine S28 ?_ | refine S33 ?_ | refine S42 ?_ | refine S45 ?_ | refine S46 ?_ | refine S54 ?_ | refine S55 ?_ | refine S65 ?_ | refine S66 ?_ | refine S68 ?_ | refine S71 ?_)
  obtain ⟨low, hlow⟩ : ∃ low : Int, low = (if lb < la then lb else la) := ⟨_, rfl⟩
  obtain ⟨hi, hhi⟩ : ∃ hi : Int, hi = (if la + (ca.length : Int) < lb + (cb.length : Int) then lb + (cb.length : Int) else la + (ca.length : Int)) := ⟨_, rfl⟩
  rw [← hlow, ← hhi]
  have hl1 : low ≤ la ∧ low ≤ lb ∧ -100000 ≤ low := by omega
  have hh1 : la + (ca.length : Int) ≤ hi ∧ lb + (cb.length : Int) ≤ hi ∧ hi ≤ 200000 := by omega
  clear hlow hhi
  obtain ⟨n, hn⟩ : ∃ n : Nat, hi - low = n := ⟨(hi - low).toNat, by omega⟩
  rw [hn]
  have hn2 : n ≤ 300000 := by omega
  repeat (first | refine S0 ?_ | refine S1 ?_ | refine S2 ?_ | refine S4 ?_ | refine S5 ?_ | refine S6 ?_ | refine S7 ?_ | refine S8 ?_ | refine S10 ?_ | refine S11 ?_ | refine S13 ?_ | refine S15 ?_ | refine S16 ?_ | refine S19 ?_ | refine S20 ?_ | refine S21 ?_ | refine S22 ?_ | refine S23 ?_ | refine S25 ?_ | refine S26 ?_ | refine S27 ?_ | refine S28 ?_ | refine S33 ?_ | refine S42 ?_ | refine S45 ?_ | refine S46 ?_ | refine S54 ?_ | refine S55 ?_ | refine S65 ?_ | refine S66 ?_ | refine S68 ?_ | refine S71 ?_)
  refine CW.midB (fun _ : Unit => True) (fun _ => [(2, pint k), (3, .ptr 1 0), (4, .ptr 3 0), (6, .ptr 5 0), (7, pint low), (8, .ref 6 0 1 n)]) (fun _ hp => hp.blk 1 = some [pint la, pli ca] ∧ hp.blk 3 = some [pint lb, pli cb] ∧ hp.blk 5 = some [pint 0, .lst true 0 0 []] ∧ hp.blk 6 = some (ints (tab n (fun j => wrp (coT (la, ca) ca.length (low + j)))))) ?_ ?_
  · refine CW.loopS (fun i : Nat => i ≤ ca.length) (fun i => [(2, pint k), (3, .ptr 1 0), (4, .ptr 3 0), (6, .ptr 5 0), (7, pint low), (8, .ref 6 0 1 n), (49, pli ca), (50, pint ca.length), (51, pint i)]) (fun i hp => hp.blk 1 = some [pint la, pli ca] ∧ hp.blk 3 = some [pint lb, pli cb] ∧ hp.blk 5 = some [pint 0, .lst true 0 0 []] ∧ hp.blk 6 = some (ints (tab n (fun j => wrp (coT (la, ca) i (low + j)))))) (fun i => ca.length - i) 0 ⟨by omega, ?_, ?_⟩ ?_
    · have et : h.tok false = 6 := by rw [HP.tokF, hN]
      rw [et]; exact SLx
    · have et : h.tok false = 6 := by rw [HP.tokF, hN]
      have e0 : List.replicate n (0 : Int) = tab n (fun j => wrp (coT (la, ca) 0 (low + j))) := by rw [tab_zero]; exact tab_congr (fun i _ => by rw [coT_zero]; rfl)
      dsimp only
      rw [← e0]
      refine ⟨HBx, HBx, HBx, ?_⟩
      rw [← et]; exact HP.add_same _ _ _
    clear b1 b3 b5 hN
    rintro i t h hi ⟨b1, b3, b5, b6⟩
    first | simp only [updS] | simp only [updL, Nat.reduceAdd]
    by_cases hi2 : i < ca.length
    · obtain ⟨zs, hzs⟩ : ∃ zs, zs = tab n (fun j => wrp (coT (la, ca) i (low + j))) := ⟨_, rfl⟩
      rw [← hzs] at b6
      have hzl : zs.length = n := by rw [hzs, tab_length]
      have hq : (((la - low + (i : Int)).toNat : Nat) : Int) = (la + i) - low := by omega
      have hq2 : la + i < low + n := by omega
      have hset : zs.set (la - low + (i : Int)).toNat (wrp (zs.getD (la - low + (i : Int)).toNat 0 + ca.getD i 0)) = tab n (fun j => wrp (coT (la, ca) (i + 1) (low + j))) := acc_setW (G := fun e => coT (la, ca) i e) hzs hq hq2 (fun x => coT_succ (la, ca) i x)
      repeat (first | refine S0 ?_ | refine S1 ?_ | refine S2 ?_ | refine S4 ?_ | refine S5 ?_ | refine S6 ?_ | refine S7 ?_ | refine S8 ?_ | refine S10 ?_ | refine S11 ?_ | refine S13 ?_ | refine S15 ?_ | refine S16 ?_ | refine S19 ?_ | refine S20 ?_ | refine S21 ?_ | refine S22 ?_ | refine S23 ?_ | refine S25 ?_ | refine S26 ?_ | refine S27 ?_ | refine S28 ?_ | refine S33 ?_ | refine S42 ?_ | refine S45 ?_ | refine S46 ?_ | refine S54 ?_ | refine S55 ?_ | refine S65 ?_ | refine S66 ?_ | refine S68 ?_ | refine S71 ?_)
      refine AW.addV EVx EVx ?_
      repeat (first | refine S0 ?_ | refine S1 ?_ | refine S2 ?_ | refine S4 ?_ | refine S5 ?_ | refine S6 ?_ | refine S7 ?_ | refine S8 ?_ | refine S10 ?_ | refine S11 ?_ | refine S13 ?_ | refine S15 ?_ | refine S16 ?_ | refine S19 ?_ | refine S20 ?_ | refine S21 ?_ | refine S22 ?_ | refine S23 ?_ | refine S25 ?_ | refine S26 ?_ | refine S27 ?_ | refine S28 ?_ | refine S33 ?_ | refine S42 ?_ | refine S45 ?_ | refine S46 ?_ | refine S54 ?_ | refine S55 ?_ | refine S65 ?_ | refine S66 ?_ | refine S68 ?_ | refine S71 ?_)
      refine ⟨i + 1, by omega, SLx, ?_, by omega⟩
      dsimp only
      rw [← hset]
      exact (by (try dsimp only); repeat' (first | exact HBx | exact SBx | refine And.intro ?_ ?_))
    · obtain rfl : i = ca.length := by omega
      repeat (first | refine S0 ?_ | refine S1 ?_ | refine S2 ?_ | refine S4 ?_ | refine S5 ?_ | refine S6 ?_ | refine S7 ?_ | refine S8 ?_ | refine S10 ?_ | refine S11 ?_ | refine S13 ?_ | refine S15 ?_ | refine S16 ?_ | refine S19 ?_ | refine S20 ?_ | refine S21 ?_ | refine S22 ?_ | refine S23 ?_ | refine S25 ?_ | refine S26 ?_ | refine S27 ?_ | refine S28 ?_ | refine S33 ?_ | refine S42 ?_ | refine S45 ?_ | refine S46 ?_ | refine S54 ?_ | refine S55 ?_ | refine S65 ?_ | refine S66 ?_ | refine S68 ?_ | refine S71 ?_)
      exact ⟨(), trivial, SLx, (by (try dsimp only); repeat' (first | exact HBx | exact SBx | refine And.intro ?_ ?_))⟩
  clear b1 b3 b5 hN
  rintro ⟨⟩ t h _ ⟨b1, b3, b5, b6⟩
  first | simp only [updS] | simp only [updL, Nat.reduceAdd]
  repeat (first | refine S0 ?_ | refine S1 ?_ | refine S2 ?_ | refine S4 ?_ | refine S5 ?_ | refine S6 ?_ | refine S7 ?_ | refine S8 ?_ | refine S10 ?_ | refine S11 ?_ | refine S13 ?_ | refine S15 ?_ | refine S16 ?_ | refine S19 ?_ | refine S20 ?_ | refine S21 ?_ | refine S22 ?_ | refine S23 ?_ | refine S25 ?_ | refine S26 ?_ | refine S27 ?_ | refine S28 ?_ | refine S33 ?_ | refine S42 ?_ | refine S45 ?_ | refine S46 ?_ | refine S54 ?_ | refine S55 ?_ | refine S65 ?_ | refine S66 ?_ | refine S68 ?_ | refine S71 ?_)
  refine CW.loopS (fun i : Nat => i ≤ cb.length) (fun i => [(2, pint k), (3, .ptr 1 0), (4, .ptr 3 0), (6, .ptr 5 0), (7, pint low), (8, .ref 6 0 1 n), (70, pli cb), (71, pint cb.length), (72, pint i)]) (fun i hp => hp.blk 1 = some [pint la, pli ca] ∧ hp.blk 3 = some [pint lb, pli cb] ∧ hp.blk 5 = some [pint 0, .lst true 0 0 []] ∧ hp.blk 6 = some (ints (tab n (fun j => wrp ((fun e => coT (la, ca) ca.length e + k * coT (lb, cb) i e) (low + j)))))) (fun i => cb.length - i) 0 ⟨by omega, SLx, ?_⟩ ?_
  · have e0 : tab n (fun j => wrp (coT (la, ca) ca.length (low + j))) = tab n (fun j => wrp ((fun e => coT (la, ca) ca.length e + k * coT (lb, cb) 0 e) (low + j))) := tab_congr (fun i _ => by simp only [coT_zero, Int.mul_zero, Int.add_zero])
    dsimp only at e0 ⊢
    rw [← e0]
    exact (by (try dsimp only); repeat' (first | exact HBx | exact SBx | refine And.intro ?_ ?_))
  clear b1 b3 b5 b6
  rintro i t h hi ⟨b1, b3, b5, b6⟩
  first | simp only [updS] | simp only [updL, Nat.reduceAdd]
  by_cases hi2 : i < cb.length
  · obtain ⟨zs, hzs⟩ : ∃ zs, zs = tab n (fun j => wrp ((fun e => coT (la, ca) ca.length e + k * coT (lb, cb) i e) (low + j))) := ⟨_, rfl⟩
    rw [← hzs] at b6
    have hzl : zs.length = n := by rw [hzs, tab_length]
    have hq : (((lb - low + (i : Int)).toNat : Nat) : Int) = (lb + i) - low := by omega
    have hq2 : lb + i < low + n := by omega
    have hset : zs.set (lb - low + (i : Int)).toNat (wrp (zs.getD (lb - low + (i : Int)).toNat 0 + wrp (k * cb.getD i 0))) = tab n (fun j => wrp ((fun e => coT (la, ca) ca.length e + k * coT (lb, cb) (i + 1) e) (low + j))) := by
      rw [wrp_addr]
      exact acc_setW (G := fun e => coT (la, ca) ca.length e + k * coT (lb, cb) i e) (G' := fun e => coT (la, ca) ca.length e + k * coT (lb, cb) (i + 1) e) hzs hq hq2 (fun x => by
        rw [coT_succ (lb, cb) i x, Int.mul_add, ← Int.add_assoc]
        congr 1
        split <;> simp)
    repeat (first | refine S0 ?_ | refine S1 ?_ | refine S2 ?_ | refine S4 ?_ | refine S5 ?_ | refine S6 ?_ | refine S7 ?_ | refine S8 ?_ | refine S10 ?_ | refine S11 ?_ | refine S13 ?_ | refine S15 ?_ | refine S16 ?_ | refine S19 ?_ | refine S20 ?_ | refine S21 ?_ | refine S22 ?_ | refine S23 ?_ | refine S25 ?_ | refine S26 ?_ | refine S27 ?_ | refine S28 ?_ | refine S33 ?_ | refine S42 ?_ | refine S45 ?_ | refine S46 ?_ | refine S54 ?_ | refine S55 ?_ | refine S65 ?_ | refine S66 ?_ | refine S68 ?_ | refine S71 ?_)
    refine AW.mulV EVx EVx ?_
    repeat (first | refine S0 ?_ | refine S1 ?_ | refine S2 ?_ | refine S4 ?_ | refine S5 ?_ | refine S6 ?_ | refine S7 ?_ | refine S8 ?_ | refine S10 ?_ | refine S11 ?_ | refine S13 ?_ | refine S15 ?_ | refine S16 ?_ | refine S19 ?_ | refine S20 ?_ | refine S21 ?_ | refine S22 ?_ | refine S23 ?_ | refine S25 ?_ | refine S26 ?_ | refine S27 ?_ | refine S28 ?_ | refine S33 ?_ | refine S42 ?_ | refine S45 ?_ | refine S46 ?_ | refine S54 ?_ | refine S55 ?_ | refine S65 ?_ | refine S66 ?_ | refine S68 ?_ | refine S71 ?_)
    refine AW.addV EVx EVx ?_
    repeat (first | refine S0 ?_ | refine S1 ?_ | refine S2 ?_ | refine S4 ?_ | refine S5 ?_ | refine S6 ?_ | refine S7 ?_ | refine S8 ?_ | refine S10 ?_ | refine S11 ?_ | refine S13 ?_ | refine S15 ?_ | refine S16 ?_ | refine S19 ?_ | refine S20 ?_ | refine S21 ?_ | refine S22 ?_ | refine S23 ?_ | refine S25 ?_ | refine S26 ?_ | refine S27 ?_ | refine S28 ?_ | refine S33 ?_ | refine S42 ?_ | refine S45 ?_ | refine S46 ?_ | refine S54 ?_ | refine S55 ?_ | refine S65 ?_ | refine S66 ?_ | refine S68 ?_ | refine S71 ?_)
    refine ⟨i + 1, by omega, SLx, ?_, by omega⟩
    dsimp only at hset ⊢
    rw [← hset]
    exact (by (try dsimp only); repeat' (first | exact HBx | exact SBx | refine And.intro ?_ ?_))
  · obtain rfl : i = cb.length := by omega
    refine CW.freezeI (xs := tab n (fun j => wrp ((fun e => coT (la, ca) ca.length e + k * coT (lb, cb) cb.length e) (low + j)))) 8 (by rw [tab_length]; rfl) b6 ?_
    repeat (first | refine S0 ?_ | refine S1 ?_ | refine S2 ?_ | refine S4 ?_ | refine S5 ?_ | refine S6 ?_ | refine S7 ?_ | refine S8 ?_ | refine S10 ?_ | refine S11 ?_ | refine S13 ?_ | refine S15 ?_ | refine S16 ?_ | refine S19 ?_ | refine S20 ?_ | refine S21 ?_ | refine S22 ?_ | refine S23 ?_ | refine S25 ?_ | refine S26 ?_ | refine S27 ?_ | refine S28 ?_ | refine S33 ?_ | refine S42 ?_ | refine S45 ?_ | refine S46 ?_ | refine S54 ?_ | refine S55 ?_ | refine S65 ?_ | refine S66 ?_ | refine S68 ?_ | refine S71 ?_)
    refine Scall (args := [pint low, pli (tab n (fun j => wrp ((fun e => coT (la, ca) ca.length e + k * coT (lb, cb) cb.length e) (low + j))))]) (trim_s low _ (by omega) (by rw [tab_length]; omega)) ?_
    rw [show (fun j : Nat => wrp ((fun e => coT (la, ca) ca.length e + k * coT (lb, cb) cb.length e) (low + j))) = fun j : Nat => wrp ((fun e => co (la, ca) e + k * co (lb, cb) e) (low + j)) from by
      funext j
      simp only [coT_all (la, ca), coT_all (lb, cb)]]
    rw [co_tabW (F := fun e => co (la, ca) e + k * co (lb, cb) e) (fun e he => by
      by_cases c1 : co (la, ca) e = 0
      · by_cases c2 : co (lb, cb) e = 0
        · simp [c1, c2] at he
        · have := co_in c2; simp only at this; omega
      · have := co_in c1; simp only at this; omega)]
    repeat (first | refine S0 ?_ | refine S1 ?_ | refine S2 ?_ | refine S4 ?_ | refine S5 ?_ | refine S6 ?_ | refine S7 ?_ | refine S8 ?_ | refine S10 ?_ | refine S11 ?_ | refine S13 ?_ | refine S15 ?_ | refine S16 ?_ | refine S19 ?_ | refine S20 ?_ | refine S21 ?_ | refine S22 ?_ | refine S23 ?_ | refine S25 ?_ | refine S26 ?_ | refine S27 ?_ | refine S28 ?_ | refine S33 ?_ | refine S42 ?_ | refine S45 ?_ | refine S46 ?_ | refine S54 ?_ | refine S55 ?_ | refine S65 ?_ | refine S66 ?_ | refine S68 ?_ | refine S71 ?_)
    exact ⟨.inr rfl, FR.cell1 rfl HBx rfl rfl (.cl (by simp only [PV.cl, PV.cl.clL, pint_cl, pli_cl, Bool.and_self]))⟩
end Go.Proofs.Ytdlpbpfcgjgppaa
