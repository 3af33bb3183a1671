/- Maps in the cells of a slice, maps in tokens set aside. Nothing of the program is here. -/
import Derived.Test.YtenoiklocdoemaaGAlexanderMinorsBG
import Derived.Test.YtenoiklocdoemaaGAlexanderMinorsBC
import Derived.Test.YtenoiklocdoemaaGAlexanderMinorsBD
set_option linter.unusedVariables false
set_option linter.unusedSimpArgs false
namespace Go.Proofs.Ytenoiklocdoemaa
open Go.RowKit

section
variable {P : Program} {T : TypeId → TI} {M : Hn} {n : Nat} {t : Nat → PV} {h : HP} {Q : Exit → AS → Prop}
/-- a map that a cell of a block holds is written no more -/
theorem CW.freezeMC {c : Code} (v i : Nat) {tk : Nat} {m : MF} {cs r : List PV} (hb : h.blk v = some cs) (hi : cs[i]? = some (.mref tk)) (hs : h.sp tk = some (.map m)) (hr : cs.set i (.fmap m) = r) (hk : CW P T M n c ⟨t, (h.killS tk).set v r⟩ Q) : CW P T M n c ⟨t, h⟩ Q := by
  subst hr
  refine ⟨fun h1 h2 h3 => ?_⟩
  have h4 := hk.out h1 h2 h3
  intro E w0 Z0 ρ a w R
  obtain ⟨b, obj, g1, g2, g3, g4⟩ := R.heap.slive tk _ hs
  obtain ⟨H', up, hv'⟩ := R.heap.killS hs g1
  have hil : i < cs.length := by
    apply Classical.byContradiction; intro hc
    rw [List.getElem?_eq_none (by omega)] at hi; cases hi
  obtain ⟨H2, up2⟩ := H'.recell (tk := v) (cs := cs) (r := cs.set i (.fmap m)) hb (by simp) (fun j u hj hu => by
    by_cases e : i = j
    · subst e
      rw [set_getD_same hil]
      rw [show cs.getD i .junk = .mref tk by rw [List.getD_eq_getElem?_getD, hi]; rfl] at hu
      cases hu with
      | mref _ b' hr =>
        rw [g1] at hr; cases hr
        exact hv'
    · rw [set_getD_other e]; exact hu)
  exact h4 E w0 Z0 ρ a w ⟨R.defers, R.size, fun x => up2 _ _ (up _ _ (R.tmps x)), H2, fun p u h => up2 _ _ (up _ _ (R.mem p u h))⟩
end
section
variable {P : Program} {T : TypeId → TI} {M : Hn} {cl : Oper → Cls} {ops : Array Oper} {l : List Oper} {t : Nat → PV} {h : HP} {K : AS → Prop} {d : Nat} {ty : TypeId} {pos : String} {aft : Array Edge}
theorem AW.mkmAI {tt : TypeId} {z : Value} (tk : Nat) (h0 : cl ⟨some d, .makeMap tt none, ty, pos, aft, none⟩ = .wrM) (ht : T tt = .mp z) (hd : tk % 1024 = d) (hw : h.win tk = true) (hk : AW P T M cl ops l ⟨upd t d (.mref tk), h.putS tk (.map (mi fun _ => none))⟩ K) : AW P T M cl ops (⟨some d, .makeMap tt none, ty, pos, aft, none⟩ :: l) ⟨t, h⟩ K :=
  AW.mkmA tk h0 ht hd hw hk
theorem AW.insAI {tt : TypeId} {x0 : Nat} {y v : Operand} {tk : Nat} {f g : Int → Option Int} {kk c : Int} {z : Value} (hx : evA t (.tmp x0) = .mref tk) (hy : evA t y = .sc (.int .i64 kk)) (hv : evA t v = .sc (.int .i64 c)) (h0 : cl ⟨none, .insert tt (.tmp x0) y v, ty, pos, aft, none⟩ = .wrM) (ht : T tt = .mp z) (hd : tk % 1024 = x0) (hm : h.sp tk = some (.map (mi f))) (hn : f kk = none) (hr : (fun y => if y = kk then some c else f y) = g)
    (hk : AW P T M cl ops l ⟨t, h.setS tk (.map (mi g))⟩ K) : AW P T M cl ops (⟨none, .insert tt (.tmp x0) y v, ty, pos, aft, none⟩ :: l) ⟨t, h⟩ K :=
  AW.insA hx hy hv h0 ht hd hm (by unfold mi; rw [hn]; rfl) ((mi_set f kk c).trans (congrArg mi hr)) hk
end
/-- a token of the window for a slot -/
theorem win_for (h : HP) (s : Nat) (hs : s < 1024) : ∃ tk, tk % 1024 = s ∧ 2 * h.next ≤ tk ∧ tk < 2 * h.next + 1024 ∧ (h.bump 1024).win tk = true := by
  obtain ⟨j, hj⟩ : ∃ j, j = (s + 1024 - (2 * h.next) % 1024) % 1024 := ⟨_, rfl⟩
  refine ⟨2 * h.next + j, by omega, by omega, by omega, HP.bump_win h (by omega)⟩
end Go.Proofs.Ytenoiklocdoemaa

/- The terms of a polynomial in order; products by terms. No condition of its own. -/
set_option linter.unusedVariables false
set_option linter.unusedSimpArgs false
namespace Go.Proofs.Ytenoiklocdoemaa
open Go.RowKit

/-- the terms of a polynomial, in order -/
def enl (a : Po) : Nat → List (Int × Int)
  | 0 => []
  | n + 1 => enl a n ++ (if a.2.getD n 0 = 0 then [] else [(a.1 + n, a.2.getD n 0)])
end Go.Proofs.Ytenoiklocdoemaa

/- The reference's terms for coefficients of any size: Plus and Mul modulo 2^64. No condition of its own. -/
set_option linter.unusedVariables false
set_option linter.unusedSimpArgs false
namespace Go.Proofs.Ytenoiklocdoemaa
open Go.RowKit

/-- all values, modulo 2^64 -/
def wT (f : Tm) : Tm := fun e => (f e).map wrp
theorem tv_wT (f : Tm) (e : Int) : tv (wT f) e = wrp (tv f e) := by
  unfold tv wT
  cases f e <;> rfl
theorem wT_some (f : Tm) (e : Int) : (wT f e).isSome = (f e).isSome := by
  unfold wT
  cases f e <;> rfl
theorem wT_put (f : Tm) (e v : Int) : (fun y => if y = e then some (wrp ((wT f e).getD 0 + v)) else wT f y) = wT (fun y => if y = e then some ((f e).getD 0 + v) else f y) := by
  funext y
  unfold wT
  by_cases h : y = e
  · simp only [if_pos h]
    have h1 : ((f e).map wrp).getD 0 = wrp ((f e).getD 0) := by cases f e <;> rfl
    rw [h1, wrp_addl]; rfl
  · simp only [if_neg h]
set_option maxHeartbeats 8000000 in
set_option maxRecDepth 100000 in
theorem tplusW_s (a b : Tm) (k : Int) (B : Nat) (ha : ∀ e, (a e).isSome = true → -(B : Int) ≤ e ∧ e ≤ B) (hb : ∀ e, (b e).isSome = true → -(B : Int) ≤ e ∧ e ≤ B) :
    SC Try.prog 52 [.fmap (mi a), .fmap (mi b), pint k] (.fmap (mi (wT (tplus a b k)))) := by
  refine SC.go {} tok mixed Try.func52 rfl rfl Try.ntmps52 rfl rfl (by kernel_rfl) ?_
  first | simp only [updS] | simp only [updL, Nat.reduceAdd]
  repeat (first | refine S0 ?_ | refine S1 ?_ | refine S2 ?_ | refine S4 ?_ | refine S5 ?_ | refine S6 ?_ | refine S7 ?_ | refine S8 ?_ | refine S10 ?_ | refine S11 ?_ | refine S13 ?_ | refine S15 ?_ | refine S16 ?_ | refine S19 ?_ | refine S20 ?_ | refine S22 ?_ | refine S34 ?_ | refine S79 ?_ | refine S81 ?_ | refine S84 ?_ | refine S85 ?_ | refine S87 ?_)
  refine CW.midB (fun _ : Unit => True) (fun _ => [(1, .fmap (mi b)), (2, pint k), (7, .mref 1)]) (fun _ hp => hp.next = 2 ∧ hp.sp 1 = some (.map (mi (wT a)))) ?_ ?_
  · refine CW.loopS (fun ps : List (Int × Int) => Enum a ps) (fun ps => [(1, .fmap (mi b)), (2, pint k), (7, .mref 1), (14, .itr 3)]) (fun ps hp => hp.next = 2 ∧ hp.sp 1 = some (.map (mi (wT (lkp ps)))) ∧ hp.sp 3 = some (.iter (mi a) (pvs ps))) (fun ps => 2 * B + 1 - ps.length) [] ⟨.nil a, SLx, rfl, ?_⟩ ?_
    · exact (by (try dsimp only); repeat' (first | exact HBx | exact SBx | refine And.intro ?_ ?_))
    rintro ps t h hE ⟨hN, h1, h3⟩
    first | simp only [updS] | simp only [updL, Nat.reduceAdd]
    refine CW.nextI rfl h3 ?_ ?_
    · intro hall
      rw [hE.full hall] at h1
      repeat (first | refine S0 ?_ | refine S1 ?_ | refine S2 ?_ | refine S4 ?_ | refine S5 ?_ | refine S6 ?_ | refine S7 ?_ | refine S8 ?_ | refine S10 ?_ | refine S11 ?_ | refine S13 ?_ | refine S15 ?_ | refine S16 ?_ | refine S19 ?_ | refine S20 ?_ | refine S22 ?_ | refine S34 ?_ | refine S79 ?_ | refine S81 ?_ | refine S84 ?_ | refine S85 ?_ | refine S87 ?_)
      exact ⟨(), trivial, SLx, hN, h1⟩
    · intro e c hc hfr
      have hE2 := hE.snoc hc hfr
      have hl := hE2.len ha
      have hs := (wT_put (lkp ps) e c).trans (congrArg wT (lkp_step (c := c) hfr))
      simp only [List.length_append, List.length_cons, List.length_nil] at hl
      repeat (first | refine S0 ?_ | refine S1 ?_ | refine S2 ?_ | refine S4 ?_ | refine S5 ?_ | refine S6 ?_ | refine S7 ?_ | refine S8 ?_ | refine S10 ?_ | refine S11 ?_ | refine S13 ?_ | refine S15 ?_ | refine S16 ?_ | refine S19 ?_ | refine S20 ?_ | refine S22 ?_ | refine S34 ?_ | refine S79 ?_ | refine S81 ?_ | refine S84 ?_ | refine S85 ?_ | refine S87 ?_)
      refine AW.addV EVx EVx ?_
      repeat (first | refine S0 ?_ | refine S1 ?_ | refine S2 ?_ | refine S4 ?_ | refine S5 ?_ | refine S6 ?_ | refine S7 ?_ | refine S8 ?_ | refine S10 ?_ | refine S11 ?_ | refine S13 ?_ | refine S15 ?_ | refine S16 ?_ | refine S19 ?_ | refine S20 ?_ | refine S22 ?_ | refine S34 ?_ | refine S79 ?_ | refine S81 ?_ | refine S84 ?_ | refine S85 ?_ | refine S87 ?_)
      refine ⟨ps ++ [(e, c)], hE2, SLx, ⟨hN, ?_, ?_⟩, by simp; omega⟩
      · dsimp only; rw [← hs]; exact SBx
      · exact SBx
  rintro ⟨⟩ t h _ ⟨hN, h1⟩
  first | simp only [updS] | simp only [updL, Nat.reduceAdd]
  have et : h.tok true = 5 := by rw [HP.tokT, hN]
  repeat (first | refine S0 ?_ | refine S1 ?_ | refine S2 ?_ | refine S4 ?_ | refine S5 ?_ | refine S6 ?_ | refine S7 ?_ | refine S8 ?_ | refine S10 ?_ | refine S11 ?_ | refine S13 ?_ | refine S15 ?_ | refine S16 ?_ | refine S19 ?_ | refine S20 ?_ | refine S22 ?_ | refine S34 ?_ | refine S79 ?_ | refine S81 ?_ | refine S84 ?_ | refine S85 ?_ | refine S87 ?_)
  refine CW.loopS (fun qs : List (Int × Int) => Enum b qs) (fun qs => [(2, pint k), (7, .mref 1), (26, .itr 5)]) (fun qs hp => hp.sp 1 = some (.map (mi (wT (tplus a (lkp qs) k)))) ∧ hp.sp 5 = some (.iter (mi b) (pvs qs))) (fun qs => 2 * B + 1 - qs.length) [] ⟨.nil b, ?_, ?_⟩ ?_
  · rw [et]; exact SLx
  · dsimp only
    rw [lkp_nil, tplus_none]
    refine ⟨SBx, ?_⟩
    rw [← et]; exact HP.addS_same _ _ _
  clear et h1 hN t h
  rintro qs t h hE ⟨h1, h5⟩
  first | simp only [updS] | simp only [updL, Nat.reduceAdd]
  refine CW.nextI rfl h5 ?_ ?_
  · intro hall
    rw [hE.full hall] at h1
    repeat (first | refine S0 ?_ | refine S1 ?_ | refine S2 ?_ | refine S4 ?_ | refine S5 ?_ | refine S6 ?_ | refine S7 ?_ | refine S8 ?_ | refine S10 ?_ | refine S11 ?_ | refine S13 ?_ | refine S15 ?_ | refine S16 ?_ | refine S19 ?_ | refine S20 ?_ | refine S22 ?_ | refine S34 ?_ | refine S79 ?_ | refine S81 ?_ | refine S84 ?_ | refine S85 ?_ | refine S87 ?_)
    exact ⟨.inr rfl, .mref h1⟩
  · intro e c hc hfr
    have hE2 := hE.snoc hc hfr
    have hl := hE2.len hb
    have hs := ((wT_put (tplus a (lkp qs) k) e (k * c)).trans (congrArg wT (tplus_step (a := a) (k := k) (c := c) hfr)))
    rw [← wrp_addr] at hs
    simp only [List.length_append, List.length_cons, List.length_nil] at hl
    repeat (first | refine S0 ?_ | refine S1 ?_ | refine S2 ?_ | refine S4 ?_ | refine S5 ?_ | refine S6 ?_ | refine S7 ?_ | refine S8 ?_ | refine S10 ?_ | refine S11 ?_ | refine S13 ?_ | refine S15 ?_ | refine S16 ?_ | refine S19 ?_ | refine S20 ?_ | refine S22 ?_ | refine S34 ?_ | refine S79 ?_ | refine S81 ?_ | refine S84 ?_ | refine S85 ?_ | refine S87 ?_)
    refine AW.mulV EVx EVx ?_
    repeat (first | refine S0 ?_ | refine S1 ?_ | refine S2 ?_ | refine S4 ?_ | refine S5 ?_ | refine S6 ?_ | refine S7 ?_ | refine S8 ?_ | refine S10 ?_ | refine S11 ?_ | refine S13 ?_ | refine S15 ?_ | refine S16 ?_ | refine S19 ?_ | refine S20 ?_ | refine S22 ?_ | refine S34 ?_ | refine S79 ?_ | refine S81 ?_ | refine S84 ?_ | refine S85 ?_ | refine S87 ?_)
    refine AW.addV EVx EVx ?_
    repeat (first | refine S0 ?_ | refine S1 ?_ | refine S2 ?_ | refine S4 ?_ | refine S5 ?_ | refine S6 ?_ | refine S7 ?_ | refine S8 ?_ | refine S10 ?_ | refine S11 ?_ | refine S13 ?_ | refine S15 ?_ | refine S16 ?_ | refine S19 ?_ | refine S20 ?_ | refine S22 ?_ | refine S34 ?_ | refine S79 ?_ | refine S81 ?_ | refine S84 ?_ | refine S85 ?_ | refine S87 ?_)
    refine ⟨qs ++ [(e, c)], hE2, SLx, ⟨?_, ?_⟩, by simp; omega⟩
    · dsimp only; rw [← hs]; exact SBx
    · exact SBx
set_option maxHeartbeats 8000000 in
set_option maxRecDepth 100000 in
theorem tmulW_s (a b : Tm) (B : Nat) (hB : B ≤ 1000000) (ha : ∀ e, (a e).isSome = true → -(B : Int) ≤ e ∧ e ≤ B) (hb : ∀ e, (b e).isSome = true → -(B : Int) ≤ e ∧ e ≤ B) :
    SC Try.prog 51 [.fmap (mi a), .fmap (mi b)] (.fmap (mi (wT (tmul a b)))) := by
  refine SC.go {} tok mixed Try.func51 rfl rfl Try.ntmps51 rfl rfl (by kernel_rfl) ?_
  first | simp only [updS] | simp only [updL, Nat.reduceAdd]
  repeat (first | refine S0 ?_ | refine S1 ?_ | refine S2 ?_ | refine S4 ?_ | refine S5 ?_ | refine S6 ?_ | refine S7 ?_ | refine S8 ?_ | refine S10 ?_ | refine S11 ?_ | refine S13 ?_ | refine S15 ?_ | refine S16 ?_ | refine S19 ?_ | refine S20 ?_ | refine S22 ?_ | refine S34 ?_ | refine S79 ?_ | refine S81 ?_ | refine S84 ?_ | refine S85 ?_ | refine S87 ?_)
  refine CW.loopS (fun ps : List (Int × Int) => Enum a ps) (fun ps => [(1, .fmap (mi b)), (5, .mref 1), (12, .itr 3)]) (fun ps hp => 2 ≤ hp.next ∧ hp.sp 1 = some (.map (mi (wT (gM b ps)))) ∧ hp.sp 3 = some (.iter (mi a) (pvs ps))) (fun ps => 2 * B + 1 - ps.length) [] ⟨.nil a, SLx, Nat.le_refl _, ?_⟩ ?_
  · exact (by (try dsimp only); repeat' (first | exact HBx | exact SBx | refine And.intro ?_ ?_))
  rintro ps t h hE ⟨hN, h1, h3⟩
  first | simp only [updS] | simp only [updL, Nat.reduceAdd]
  refine CW.nextI rfl h3 ?_ ?_
  · intro hall
    repeat (first | refine S0 ?_ | refine S1 ?_ | refine S2 ?_ | refine S4 ?_ | refine S5 ?_ | refine S6 ?_ | refine S7 ?_ | refine S8 ?_ | refine S10 ?_ | refine S11 ?_ | refine S13 ?_ | refine S15 ?_ | refine S16 ?_ | refine S19 ?_ | refine S20 ?_ | refine S22 ?_ | refine S34 ?_ | refine S79 ?_ | refine S81 ?_ | refine S84 ?_ | refine S85 ?_ | refine S87 ?_)
    rw [tmul_eq hE hall]
    exact ⟨.inr rfl, .mref h1⟩
  · intro e c hc hfr
    have hE2 := hE.snoc hc hfr
    have hl := hE2.len ha
    have hbe := ha e (by rw [hc]; rfl)
    simp only [List.length_append, List.length_cons, List.length_nil] at hl
    obtain ⟨tk, htk⟩ : ∃ tk, tk = (h.setS 3 (.iter (mi a) (pvs (ps ++ [(e, c)])))).tok true := ⟨_, rfl⟩
    have htk2 : tk ≠ 1 ∧ tk ≠ 3 := by rw [htk, HP.tokT, HP.next_setS]; omega
    repeat (first | refine S0 ?_ | refine S1 ?_ | refine S2 ?_ | refine S4 ?_ | refine S5 ?_ | refine S6 ?_ | refine S7 ?_ | refine S8 ?_ | refine S10 ?_ | refine S11 ?_ | refine S13 ?_ | refine S15 ?_ | refine S16 ?_ | refine S19 ?_ | refine S20 ?_ | refine S22 ?_ | refine S34 ?_ | refine S79 ?_ | refine S81 ?_ | refine S84 ?_ | refine S85 ?_ | refine S87 ?_)
    rw [← htk]
    refine CW.loopS (fun qs : List (Int × Int) => Enum b qs) (fun qs => [(1, .fmap (mi b)), (5, .mref 1), (6, pint e), (7, pint c), (12, .itr 3), (19, .itr tk)]) (fun qs hp => 2 ≤ hp.next ∧ hp.sp 1 = some (.map (mi (wT (tplus (gM b ps) (shf e (lkp qs)) c)))) ∧ hp.sp 3 = some (.iter (mi a) (pvs (ps ++ [(e, c)]))) ∧ hp.sp tk = some (.iter (mi b) (pvs qs))) (fun qs => 2 * B + 1 - qs.length) [] ⟨.nil b, SLx, ?_, ?_⟩ ?_
    · show 2 ≤ h.next + 1; omega
    · dsimp only
      rw [lkp_nil, shf_none, tplus_none]
      refine ⟨?_, ?_, ?_⟩
      · refine (HP.addS_other _ _ _ (by rw [← htk]; omega)).trans ?_
        exact SBx
      · refine (HP.addS_other _ _ _ (by rw [← htk]; omega)).trans ?_
        exact SBx
      · rw [htk]; exact HP.addS_same _ _ _
    clear htk h1 h3 hN t h
    rintro qs t h hEb ⟨hN, h1, h3, h5⟩
    first | simp only [updS] | simp only [updL, Nat.reduceAdd]
    refine CW.nextI rfl h5 ?_ ?_
    · intro hall
      rw [hEb.full hall, ← gM_snoc] at h1
      repeat (first | refine S0 ?_ | refine S1 ?_ | refine S2 ?_ | refine S4 ?_ | refine S5 ?_ | refine S6 ?_ | refine S7 ?_ | refine S8 ?_ | refine S10 ?_ | refine S11 ?_ | refine S13 ?_ | refine S15 ?_ | refine S16 ?_ | refine S19 ?_ | refine S20 ?_ | refine S22 ?_ | refine S34 ?_ | refine S79 ?_ | refine S81 ?_ | refine S84 ?_ | refine S85 ?_ | refine S87 ?_)
      exact ⟨ps ++ [(e, c)], hE2, SLx, ⟨hN, h1, h3⟩, by simp; omega⟩
    · intro f d hd hfrb
      have hEb2 := hEb.snoc hd hfrb
      have hlb := hEb2.len hb
      have hbf := hb f (by rw [hd]; rfl)
      have hn : shf e (lkp qs) (e + f) = none := by
        unfold shf
        rw [show e + f - e = f by omega]
        exact lkp_fresh hfrb
      have hs := tplus_put (a := gM b ps) (k := c) (c := d) hn
      rw [shf_snoc hfrb] at hs
      have hs := ((wT_put (tplus (gM b ps) (shf e (lkp qs)) c) (e + f) (c * d)).trans (congrArg wT hs))
      rw [← wrp_addr] at hs
      simp only [List.length_append, List.length_cons, List.length_nil] at hlb
      repeat (first | refine S0 ?_ | refine S1 ?_ | refine S2 ?_ | refine S4 ?_ | refine S5 ?_ | refine S6 ?_ | refine S7 ?_ | refine S8 ?_ | refine S10 ?_ | refine S11 ?_ | refine S13 ?_ | refine S15 ?_ | refine S16 ?_ | refine S19 ?_ | refine S20 ?_ | refine S22 ?_ | refine S34 ?_ | refine S79 ?_ | refine S81 ?_ | refine S84 ?_ | refine S85 ?_ | refine S87 ?_)
      refine AW.mulV EVx EVx ?_
      repeat (first | refine S0 ?_ | refine S1 ?_ | refine S2 ?_ | refine S4 ?_ | refine S5 ?_ | refine S6 ?_ | refine S7 ?_ | refine S8 ?_ | refine S10 ?_ | refine S11 ?_ | refine S13 ?_ | refine S15 ?_ | refine S16 ?_ | refine S19 ?_ | refine S20 ?_ | refine S22 ?_ | refine S34 ?_ | refine S79 ?_ | refine S81 ?_ | refine S84 ?_ | refine S85 ?_ | refine S87 ?_)
      refine AW.addV EVx EVx ?_
      repeat (first | refine S0 ?_ | refine S1 ?_ | refine S2 ?_ | refine S4 ?_ | refine S5 ?_ | refine S6 ?_ | refine S7 ?_ | refine S8 ?_ | refine S10 ?_ | refine S11 ?_ | refine S13 ?_ | refine S15 ?_ | refine S16 ?_ | refine S19 ?_ | refine S20 ?_ | refine S22 ?_ | refine S34 ?_ | refine S79 ?_ | refine S81 ?_ | refine S84 ?_ | refine S85 ?_ | refine S87 ?_)
      refine ⟨qs ++ [(f, d)], hEb2, SLx, ⟨hN, ?_, ?_, ?_⟩, by simp; omega⟩
      · dsimp only; rw [← hs]; exact SBx
      · exact SBx
      · exact SBx
/-! ### terms by the ring -/
/-- the terms stand for an element of the ring, modulo 2^64 -/
structure IsT (B : Nat) (f : Tm) (a : LP) : Prop where
  val : ∀ e, wrp (tv f e) = wrp (a.f e)
  bd : ∀ e, (f e).isSome = true → -(B : Int) ≤ e ∧ e ≤ B
theorem IsT.mono {B C : Nat} {f : Tm} {a : LP} (h : IsT B f a) (hc : B ≤ C) : IsT C f a := ⟨h.val, fun e he => by have := h.bd e he; omega⟩
theorem IsT.plus {B : Nat} {f g : Tm} {a b : LP} (h1 : IsT B f a) (h2 : IsT B g b) (k : Int) : IsT B (wT (tplus f g k)) (a + LP.smul k b) := by
  refine ⟨fun e => ?_, fun e he => ?_⟩
  · rw [tv_wT, wrp_wrp, tv_plus, LP.add_f, LP.smul_f, ← wrp_addl, h1.val, wrp_addl, ← wrp_addr, ← wrp_mulr, h2.val, wrp_mulr, wrp_addr]
  · rw [wT_some] at he
    unfold tplus at he
    split at he
    · rename_i hh
      rw [Bool.or_eq_true] at hh
      rcases hh with hh | hh
      · exact h1.bd e hh
      · exact h2.bd e hh
    · cases he
/-- all pairs of a map with bounded keys, in ascending order -/
def enumT (f : Tm) (lo : Int) : Nat → List (Int × Int)
  | 0 => []
  | n + 1 => enumT f lo n ++ (match f (lo + n) with | some c => [(lo + n, c)] | none => [])
theorem enumT_mem {f : Tm} {lo : Int} : ∀ {n : Nat} {y : Int × Int}, y ∈ enumT f lo n → f y.1 = some y.2 ∧ lo ≤ y.1 ∧ y.1 < lo + n
  | 0, y, h => by cases h
  | n + 1, y, h => by
    rcases List.mem_append.1 h with h | h
    · have := enumT_mem h
      exact ⟨this.1, by omega, by omega⟩
    · cases hc : f (lo + n) with
      | none => rw [hc] at h; cases h
      | some c =>
        rw [hc] at h
        simp only [List.mem_singleton] at h
        subst h
        exact ⟨hc, by simp only; omega, by simp only; omega⟩
theorem enumT_nodup {f : Tm} {lo : Int} : ∀ n : Nat, ((enumT f lo n).map (·.1)).Nodup
  | 0 => List.nodup_nil
  | n + 1 => by
    unfold enumT
    rw [List.map_append, List.nodup_append]
    refine ⟨enumT_nodup n, ?_, ?_⟩
    · cases f (lo + n) <;> simp
    · intro a ha b hb e
      obtain ⟨y, hy, rfl⟩ := List.mem_map.1 ha
      have := enumT_mem hy
      cases hc : f (lo + n) with
      | none => rw [hc] at hb; cases hb
      | some c =>
        rw [hc] at hb
        simp only [List.map_cons, List.map_nil, List.mem_singleton] at hb
        omega
theorem enumT_all {f : Tm} {lo : Int} : ∀ {n : Nat} {e c : Int}, f e = some c → lo ≤ e → e < lo + n → (e, c) ∈ enumT f lo n
  | 0, e, c, h, h1, h2 => by omega
  | n + 1, e, c, h, h1, h2 => by
    refine List.mem_append.2 ?_
    by_cases he : e = lo + n
    · right
      rw [← he, h]; simp
    · left
      exact enumT_all h h1 (by omega)
theorem enumT_sum (f : Tm) (G : Int → Int) (lo : Int) : ∀ n : Nat, ((enumT f lo n).map fun y => y.2 * G y.1).sum = sI lo n (fun i => tv f i * G i)
  | 0 => rfl
  | n + 1 => by
    unfold enumT
    rw [List.map_append, List.sum_append, enumT_sum f G lo n]
    simp only [sI]
    congr 1
    unfold tv
    cases f (lo + n) <;> simp
theorem IsT.mul {B C : Nat} {f g : Tm} {a b : LP} (h1 : IsT B f a) (h2 : IsT C g b) (ha : Sup B a) : IsT (B + C) (wT (tmul f g)) (a * b) := by
  have hE : Enum f (enumT f (-(B : Int)) (2 * B + 1)) := ⟨fun y hy => (enumT_mem hy).1, enumT_nodup _⟩
  have hF : Full f (enumT f (-(B : Int)) (2 * B + 1)) := fun e c hc => by
    have := h1.bd e (by rw [hc]; rfl)
    exact enumT_all hc (by omega) (by omega)
  rw [tmul_eq hE hF]
  refine ⟨fun e => ?_, fun e he => ?_⟩
  · rw [tv_wT, wrp_wrp, tv_gM, enumT_sum f (fun i => tv g (e - i)), LP.mul_f, cvF_eq a b e ha.win]
    refine wrp_sum (fun i _ _ => ?_)
    rw [← wrp_mull, ← wrp_mulr, h1.val, h2.val, wrp_mulr, wrp_mull]
  · rw [wT_some] at he
    unfold gM at he
    split at he
    · rename_i hh
      obtain ⟨y, hy, hh⟩ := List.any_eq_true.1 hh
      have k1 := enumT_mem hy
      have k2 := h2.bd _ hh
      omega
    · cases he
/-- one term -/
theorem isT_mono (c e : Int) {B : Nat} (h : -(B : Int) ≤ e ∧ e ≤ B) : IsT B (fun x => if x = e then some c else none) (LP.mono c e) := by
  refine ⟨fun x => ?_, fun x hx => ?_⟩
  · unfold tv
    rw [LP.mono_f]
    by_cases hh : x = e
    · simp only [if_pos hh]; rfl
    · simp only [if_neg hh]; rfl
  · by_cases hh : x = e
    · omega
    · simp only [if_neg hh] at hx; cases hx
theorem isT_none {B : Nat} : IsT B (fun _ => none) 0 := ⟨fun e => rfl, fun e he => by cases he⟩
/-- the values are small -/
def T64 (f : Tm) : Prop := ∀ e, in64 (tv f e)
theorem T64.wT (f : Tm) : T64 (wT f) := fun e => by rw [tv_wT]; exact wrp_64 _
end Go.Proofs.Ytenoiklocdoemaa
