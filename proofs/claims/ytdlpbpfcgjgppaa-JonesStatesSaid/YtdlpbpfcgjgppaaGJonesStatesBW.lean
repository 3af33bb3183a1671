/- Facts and contracts that the claim uses. No condition of its own. -/
import Derived.Test.YtdlpbpfcgjgppaaGJonesStatesBC
import Derived.Test.YtdlpbpfcgjgppaaGJonesStatesBD
import Derived.Test.YtdlpbpfcgjgppaaGJonesStatesBK
set_option linter.unusedVariables false
set_option linter.unusedSimpArgs false
namespace Go.Proofs.Ytdlpbpfcgjgppaa
open Go.RowKit
end Go.Proofs.Ytdlpbpfcgjgppaa

/- Facts and contracts that the claim uses. No condition of its own. -/
set_option linter.unusedVariables false
set_option linter.unusedSimpArgs false
namespace Go.Proofs.Ytdlpbpfcgjgppaa
open Go.RowKit
def wT (f : Tm) : Tm := fun e => (f e).map wrp
theorem tv_wT (f : Tm) (e : Int) : tv (wT f) e = wrp (tv f e) := by
  unfold tv wT
  cases f e <;> rfl
theorem wT_some (f : Tm) (e : Int) : (wT f e).isSome = (f e).isSome := by
  unfold wT
  cases f e <;> rfl
theorem wT_put (f : Tm) (e v : Int) : (fun y => if y = e then some (wrp ((wT f e).getD 0 + v)) else wT f y) = wT (fun y => if y = e then some ((f e).getD 0 + v) else f y) := by
  funext y
  unfold wT
  by_cases h : y = e
  · simp only [if_pos h]
    have h1 : ((f e).map wrp).getD 0 = wrp ((f e).getD 0) := by cases f e <;> rfl
    rw [h1, wrp_addl]; rfl
  · simp only [if_neg h]
set_option maxHeartbeats 8000000 in
set_option maxRecDepth 100000 in
theorem tplusW_s (a b : Tm) (k : Int) (B : Nat) (ha : ∀ e, (a e).isSome = true → -(B : Int) ≤ e ∧ e ≤ B) (hb : ∀ e, (b e).isSome = true → -(B : Int) ≤ e ∧ e ≤ B) :
    SC Try.prog 34 [.fmap (mi a), .fmap (mi b), pint k] (.fmap (mi (wT (tplus a b k)))) := by
  refine SC.go {} tok mixed Try.func34 rfl rfl Try.ntmps34 rfl rfl (by kernel_rfl) ?_
  first | simp only [updS] | simp only [updL, Nat.reduceAdd]
  repeat (first | refine S0 ?_ | refine S1 ?_ | refine S2 ?_ | refine S4 ?_ | refine S5 ?_ | refine S6 ?_ | refine S7 ?_ | refine S8 ?_ | refine S10 ?_ | refine S11 ?_ | refine S13 ?_ | refine S15 ?_ | refine S16 ?_ | refine S19 ?_ | refine S20 ?_ | refine S34 ?_ | refine S79 ?_ | refine S81 ?_ | refine S84 ?_ | refine S85 ?_ | refine S87 ?_)
  refine CW.midB (fun _ : Unit => True) (fun _ => [(1, .fmap (mi b)), (2, pint k), (7, .mref 1)]) (fun _ hp => hp.next = 2 ∧ hp.sp 1 = some (.map (mi (wT a)))) ?_ ?_
  · refine CW.loopS (fun ps : List (Int × Int) => Enum a ps) (fun ps => [(1, .fmap (mi b)), (2, pint k), (7, .mref 1), (14, .itr 3)]) (fun ps hp => hp.next = 2 ∧ hp.sp 1 = some (.map (mi (wT (lkp ps)))) ∧ hp.sp 3 = some (.iter (mi a) (pvs ps))) (fun ps => 2 * B + 1 - ps.length) [] ⟨.nil a, SLx, rfl, ?_⟩ ?_
    · exact (by (try dsimp only); repeat' (first | exact HBx | exact SBx | refine And.intro ?_ ?_))
    rintro ps t h hE ⟨hN, h1, h3⟩
    first | simp only [updS] | simp only [updL, Nat.reduceAdd]
    refine CW.nextI rfl h3 ?_ ?_
    · intro hall
      rw [hE.full hall] at h1
      repeat (first | refine S0 ?_ | refine S1 ?_ | refine S2 ?_ | refine S4 ?_ | refine S5 ?_ | refine S6 ?_ | refine S7 ?_ | refine S8 ?_ | refine S10 ?_ | refine S11 ?_ | refine S13 ?_ | refine S15 ?_ | refine S16 ?_ | refine S19 ?_ | refine S20 ?_ | refine S34 ?_ | refine S79 ?_ | refine S81 ?_ | refine S84 ?_ | refine S85 ?_ | refine S87 ?_)
      exact ⟨(), trivial, SLx, hN, h1⟩
    · intro e c hc hfr
      have hE2 := hE.snoc hc hfr
      have hl := hE2.len ha
      have hs := (wT_put (lkp ps) e c).trans (congrArg wT (lkp_step (c := c) hfr))
      simp only [List.length_append, List.length_cons, List.length_nil] at hl
      repeat (first | refine S0 ?_ | refine S1 ?_ | refine S2 ?_ | refine S4 ?_ | refine S5 ?_ | refine S6 ?_ | refine S7 ?_ | refine S8 ?_ | refine S10 ?_ | refine S11 ?_ | refine S13 ?_ | refine S15 ?_ | refine S16 ?_ | refine S19 ?_ | refine S20 ?_ | refine S34 ?_ | refine S79 ?_ | refine S81 ?_ | refine S84 ?_ | refine S85 ?_ | refine S87 ?_)
      refine AW.addV EVx EVx ?_
      repeat (first | refine S0 ?_ | refine S1 ?_ | refine S2 ?_ | refine S4 ?_ | refine S5 ?_ | refine S6 ?_ | refine S7 ?_ | refine S8 ?_ | refine S10 ?_ | refine S11 ?_ | refine S13 ?_ | refine S15 ?_ | refine S16 ?_ | refine S19 ?_ | refine S20 ?_ | refine S34 ?_ | refine S79 ?_ | refine S81 ?_ | refine S84 ?_ | refine S85 ?_ | refine S87 ?_)
      refine ⟨ps ++ [(e, c)], hE2, SLx, ⟨hN, ?_, ?_⟩, by simp; omega⟩
      · dsimp only; rw [← hs]; exact SBx
      · exact SBx
  rintro ⟨⟩ t h _ ⟨hN, h1⟩
  first | simp only [updS] | simp only [updL, Nat.reduceAdd]
  have et : h.tok true = 5 := by rw [HP.tokT, hN]
  repeat (first | refine S0 ?_ | refine S1 ?_ | refine S2 ?_ | refine S4 ?_ | refine S5 ?_ | refine S6 ?_ | refine S7 ?_ | refine S8 ?_ | refine S10 ?_ | refine S11 ?_ | refine S13 ?_ | refine S15 ?_ | refine S16 ?_ | refine S19 ?_ | refine S20 ?_ | refine S34 ?_ | refine S79 ?_ | refine S81 ?_ | refine S84 ?_ | refine S85 ?_ | refine S87 ?_)
  refine CW.loopS (fun qs : List (Int × Int) => Enum b qs) (fun qs => [(2, pint k), (7, .mref 1), (26, .itr 5)]) (fun qs hp => hp.sp 1 = some (.map (mi (wT (tplus a (lkp qs) k)))) ∧ hp.sp 5 = some (.iter (mi b) (pvs qs))) (fun qs => 2 * B + 1 - qs.length) [] ⟨.nil b, ?_, ?_⟩ ?_
  · rw [et]; exact SLx
  · dsimp only
    rw [lkp_nil, tplus_none]
    refine ⟨SBx, ?_⟩
    rw [← et]; exact HP.addS_same _ _ _
  clear et h1 hN t h
  rintro qs t h hE ⟨h1, h5⟩
  first | simp only [updS] | simp only [updL, Nat.reduceAdd]
  refine CW.nextI rfl h5 ?_ ?_
  · intro hall
    rw [hE.full hall] at h1
    repeat (first | refine S0 ?_ | refine S1 ?_ | refine S2 ?_ | refine S4 ?_ | refine S5 ?_ | refine S6 ?_ | refine S7 ?_ | refine S8 ?_ | refine S10 ?_ | refine S11 ?_ | refine S13 ?_ | refine S15 ?_ | refine S16 ?_ | refine S19 ?_ | refine S20 ?_ | refine S34 ?_ | refine S79 ?_ | refine S81 ?_ | refine S84 ?_ | refine S85 ?_ | refine S87 ?_)
    exact ⟨.inr rfl, .mref h1⟩
  · intro e c hc hfr
    have hE2 := hE.snoc hc hfr
    have hl := hE2.len hb
    have hs := ((wT_put (tplus a (lkp qs) k) e (k * c)).trans (congrArg wT (tplus_step (a := a) (k := k) (c := c) hfr)))
    rw [← wrp_addr] at hs
    simp only [List.length_append, List.length_cons, List.length_nil] at hl
    repeat (first | refine S0 ?_ | refine S1 ?_ | refine S2 ?_ | refine S4 ?_ | refine S5 ?_ | refine S6 ?_ | refine S7 ?_ | refine S8 ?_ | refine S10 ?_ | refine S11 ?_ | refine S13 ?_ | refine S15 ?_ | refine S16 ?_ | refine S19 ?_ | refine S20 ?_ | refine S34 ?_ | refine S79 ?_ | refine S81 ?_ | refine S84 ?_ | refine S85 ?_ | refine S87 ?_)
    refine AW.mulV EVx EVx ?_
    repeat (first | refine S0 ?_ | refine S1 ?_ | refine S2 ?_ | refine S4 ?_ | refine S5 ?_ | refine S6 ?_ | refine S7 ?_ | refine S8 ?_ | refine S10 ?_ | refine S11 ?_ | refine S13 ?_ | refine S15 ?_ | refine S16 ?_ | refine S19 ?_ | refine S20 ?_ | refine S34 ?_ | refine S79 ?_ | refine S81 ?_ | refine S84 ?_ | refine S85 ?_ | refine S87 ?_)
    refine AW.addV EVx EVx ?_
    repeat (first | refine S0 ?_ | refine S1 ?_ | refine S2 ?_ | refine S4 ?_ | refine S5 ?_ | refine S6 ?_ | refine S7 ?_ | refine S8 ?_ | refine S10 ?_ | refine S11 ?_ | refine S13 ?_ | refine S15 ?_ | refine S16 ?_ | refine S19 ?_ | refine S20 ?_ | refine S34 ?_ | refine S79 ?_ | refine S81 ?_ | refine S84 ?_ | refine S85 ?_ | refine S87 ?_)
    refine ⟨qs ++ [(e, c)], hE2, SLx, ⟨?_, ?_⟩, by simp; omega⟩
    · dsimp only; rw [← hs]; exact SBx
    · exact SBx
set_option maxHeartbeats 8000000 in
set_option maxRecDepth 100000 in
theorem tmulW_s (a b : Tm) (B : Nat) (hB : B ≤ 1000000) (ha : ∀ e, (a e).isSome = true → -(B : Int) ≤ e ∧ e ≤ B) (hb : ∀ e, (b e).isSome = true → -(B : Int) ≤ e ∧ e ≤ B) :
    SC Try.prog 12 [.fmap (mi a), .fmap (mi b)] (.fmap (mi (wT (tmul a b)))) := by
  refine SC.go {} tok mixed Try.func12 rfl rfl Try.ntmps12 rfl rfl (by kernel_rfl) ?_
  first | simp only [updS] | simp only [updL, Nat.reduceAdd]
  repeat (first | refine S0 ?_ | refine S1 ?_ | refine S2 ?_ | refine S4 ?_ | refine S5 ?_ | refine S6 ?_ | refine S7 ?_ | refine S8 ?_ | refine S10 ?_ | refine S11 ?_ | refine S13 ?_ | refine S15 ?_ | refine S16 ?_ | refine S19 ?_ | refine S20 ?_ | refine S22 ?_ | refine S34 ?_ | refine S79 ?_ | refine S81 ?_ | refine S84 ?_ | refine S85 ?_ | refine S87 ?_)
  refine CW.loopS (fun ps : List (Int × Int) => Enum a ps) (fun ps => [(1, .fmap (mi b)), (5, .mref 1), (12, .itr 3)]) (fun ps hp => 2 ≤ hp.next ∧ hp.sp 1 = some (.map (mi (wT (gM b ps)))) ∧ hp.sp 3 = some (.iter (mi a) (pvs ps))) (fun ps => 2 * B + 1 - ps.length) [] ⟨.nil a, SLx, Nat.le_refl _, ?_⟩ ?_
  · exact (by (try dsimp only); repeat' (first | exact HBx | exact SBx | refine And.intro ?_ ?_))
  rintro ps t h hE ⟨hN, h1, h3⟩
  first | simp only [updS] | simp only [updL, Nat.reduceAdd]
  refine CW.nextI rfl h3 ?_ ?_
  · intro hall
    repeat (first | refine S0 ?_ | refine S1 ?_ | refine S2 ?_ | refine S4 ?_ | refine S5 ?_ | refine S6 ?_ | refine S7 ?_ | refine S8 ?_ | refine S10 ?_ | refine S11 ?_ | refine S13 ?_ | refine S15 ?_ | refine S16 ?_ | refine S19 ?_ | refine S20 ?_ | refine S22 ?_ | refine S34 ?_ | refine S79 ?_ | refine S81 ?_ | refine S84 ?_ | refine S85 ?_ | refine S87 ?_)
    rw [tmul_eq hE hall]
    exact ⟨.inr rfl, .mref h1⟩
  · intro e c hc hfr
    have hE2 := hE.snoc hc hfr
    have hl := hE2.len ha
    have hbe := ha e (by rw [hc]; rfl)
    simp only [List.length_append, List.length_cons, List.length_nil] at hl
    obtain ⟨tk, htk⟩ : ∃ tk, tk = (h.setS 3 (.iter (mi a) (pvs (ps ++ [(e, c)])))).tok true := ⟨_, rfl⟩
    have htk2 : tk ≠ 1 ∧ tk ≠ 3 := by rw [htk, HP.tokT, HP.next_setS]; omega
    repeat (first | refine S0 ?_ | refine S1 ?_ | refine S2 ?_ | refine S4 ?_ | refine S5 ?_ | refine S6 ?_ | refine S7 ?_ | refine S8 ?_ | refine S10 ?_ | refine S11 ?_ | refine S13 ?_ | refine S15 ?_ | refine S16 ?_ | refine S19 ?_ | refine S20 ?_ | refine S22 ?_ | refine S34 ?_ | refine S79 ?_ | refine S81 ?_ | refine S84 ?_ | refine S85 ?_ | refine S87 ?_)
    rw [← htk]
    refine CW.loopS (fun qs : List (Int × Int) => Enum b qs) (fun qs => [(1, .fmap (mi b)), (5, .mref 1), (6, pint e), (7, pint c), (12, .itr 3), (19, .itr tk)]) (fun qs hp => 2 ≤ hp.next ∧ hp.sp 1 = some (.map (mi (wT (tplus (gM b ps) (shf e (lkp qs)) c)))) ∧ hp.sp 3 = some (.iter (mi a) (pvs (ps ++ [(e, c)]))) ∧ hp.sp tk = some (.iter (mi b) (pvs qs))) (fun qs => 2 * B + 1 - qs.length) [] ⟨.nil b, SLx, ?_, ?_⟩ ?_
    · show 2 ≤ h.next + 1; omega
    · dsimp only
      rw [lkp_nil, shf_none, tplus_none]
      refine ⟨?_, ?_, ?_⟩
      · refine (HP.addS_other _ _ _ (by rw [← htk]; omega)).trans ?_
        exact SBx
      · refine (HP.addS_other _ _ _ (by rw [← htk]; omega)).trans ?_
        exact SBx
      · rw [htk]; exact HP.addS_same _ _ _
    clear htk h1 h3 hN t h
    rintro qs t h hEb ⟨hN, h1, h3, h5⟩
    first | simp only [updS] | simp only [updL, Nat.reduceAdd]
    refine CW.nextI rfl h5 ?_ ?_
    · intro hall
      rw [hEb.full hall, ← gM_snoc] at h1
      repeat (first | refine S0 ?_ | refine S1 ?_ | refine S2 ?_ | refine S4 ?_ | refine S5 ?_ | refine S6 ?_ | refine S7 ?_ | refine S8 ?_ | refine S10 ?_ | refine S11 ?_ | refine S13 ?_ | refine S15 ?_ | refine S16 ?_ | refine S19 ?_ | refine S20 ?_ | refine S22 ?_ | refine S34 ?_ | refine S79 ?_ | refine S81 ?_ | refine S84 ?_ | refine S85 ?_ | refine S87 ?_)
      exact ⟨ps ++ [(e, c)], hE2, SLx, ⟨hN, h1, h3⟩, by simp; omega⟩
    · intro f d hd hfrb
      have hEb2 := hEb.snoc hd hfrb
      have hlb := hEb2.len hb
      have hbf := hb f (by rw [hd]; rfl)
      have hn : shf e (lkp qs) (e + f) = none := by
        unfold shf
        rw [show e + f - e = f by omega]
        exact lkp_fresh hfrb
      have hs := tplus_put (a := gM b ps) (k := c) (c := d) hn
      rw [shf_snoc hfrb] at hs
      have hs := ((wT_put (tplus (gM b ps) (shf e (lkp qs)) c) (e + f) (c * d)).trans (congrArg wT hs))
      rw [← wrp_addr] at hs
      simp only [List.length_append, List.length_cons, List.length_nil] at hlb
      repeat (first | refine S0 ?_ | refine S1 ?_ | refine S2 ?_ | refine S4 ?_ | refine S5 ?_ | refine S6 ?_ | refine S7 ?_ | refine S8 ?_ | refine S10 ?_ | refine S11 ?_ | refine S13 ?_ | refine S15 ?_ | refine S16 ?_ | refine S19 ?_ | refine S20 ?_ | refine S22 ?_ | refine S34 ?_ | refine S79 ?_ | refine S81 ?_ | refine S84 ?_ | refine S85 ?_ | refine S87 ?_)
      refine AW.mulV EVx EVx ?_
      repeat (first | refine S0 ?_ | refine S1 ?_ | refine S2 ?_ | refine S4 ?_ | refine S5 ?_ | refine S6 ?_ | refine S7 ?_ | refine S8 ?_ | refine S10 ?_ | refine S11 ?_ | refine S13 ?_ | refine S15 ?_ | refine S16 ?_ | refine S19 ?_ | refine S20 ?_ | refine S22 ?_ | refine S34 ?_ | refine S79 ?_ | refine S81 ?_ | refine S84 ?_ | refine S85 ?_ | refine S87 ?_)
      refine AW.addV EVx EVx ?_
      repeat (first | refine S0 ?_ | refine S1 ?_ | refine S2 ?_ | refine S4 ?_ | refine S5 ?_ | refine S6 ?_ | refine S7 ?_ | refine S8 ?_ | refine S10 ?_ | refine S11 ?_ | refine S13 ?_ | refine S15 ?_ | refine S16 ?_ | refine S19 ?_ | refine S20 ?_ | refine S22 ?_ | refine S34 ?_ | refine S79 ?_ | refine S81 ?_ | refine S84 ?_ | refine S85 ?_ | refine S87 ?_)
      refine ⟨qs ++ [(f, d)], hEb2, SLx, ⟨hN, ?_, ?_, ?_⟩, by simp; omega⟩
      · dsimp only; rw [← hs]; exact SBx
      · exact SBx
      · exact SBx
/-! ### terms by the ring -/
structure IsT (B : Nat) (f : Tm) (a : LP) : Prop where
  val : ∀ e, wrp (tv f e) = wrp (a.f e)
  bd : ∀ e, (f e).isSome = true → -(B : Int) ≤ e ∧ e ≤ B
theorem IsT.mono {B C : Nat} {f : Tm} {a : LP} (h : IsT B f a) (hc : B ≤ C) : IsT C f a := ⟨h.val, fun e he => by have := h.bd e he; omega⟩
theorem IsT.plus {B : Nat} {f g : Tm} {a b : LP} (h1 : IsT B f a) (h2 : IsT B g b) (k : Int) : IsT B (wT (tplus f g k)) (a + LP.smul k b) := by
  refine ⟨fun e => ?_, fun e he => ?_⟩
  · rw [tv_wT, wrp_wrp, tv_plus, LP.add_f, LP.smul_f, ← wrp_addl, h1.val, wrp_addl, ← wrp_addr, ← wrp_mulr, h2.val, wrp_mulr, wrp_addr]
  · rw [wT_some] at he
    unfold tplus at he
    split at he
    · rename_i hh
      rw [Bool.or_eq_true] at hh
      rcases hh with hh | hh
      · exact h1.bd e hh
      · exact h2.bd e hh
    · cases he
def enumT (f : Tm) (lo : Int) : Nat → List (Int × Int)
  | 0 => []
  | n + 1 => enumT f lo n ++ (match f (lo + n) with | some c => [(lo + n, c)] | none => [])
theorem enumT_mem {f : Tm} {lo : Int} : ∀ {n : Nat} {y : Int × Int}, y ∈ enumT f lo n → f y.1 = some y.2 ∧ lo ≤ y.1 ∧ y.1 < lo + n
  | 0, y, h => by cases h
  | n + 1, y, h => by
    rcases List.mem_append.1 h with h | h
    · have := enumT_mem h
      exact ⟨this.1, by omega, by omega⟩
    · cases hc : f (lo + n) with
      | none => rw [hc] at h; cases h
      | some c =>
        rw [hc] at h
        simp only [List.mem_singleton] at h
        subst h
        exact ⟨hc, by simp only; omega, by simp only; omega⟩
theorem enumT_nodup {f : Tm} {lo : Int} : ∀ n : Nat, ((enumT f lo n).map (·.1)).Nodup
  | 0 => List.nodup_nil
  | n + 1 => by
    unfold enumT
    rw [List.map_append, List.nodup_append]
    refine ⟨enumT_nodup n, ?_, ?_⟩
    · cases f (lo + n) <;> simp
    · intro a ha b hb e
      obtain ⟨y, hy, rfl⟩ := List.mem_map.1 ha
      have := enumT_mem hy
      cases hc : f (lo + n) with
      | none => rw [hc] at hb; cases hb
      | some c =>
        rw [hc] at hb
        simp only [List.map_cons, List.map_nil, List.mem_singleton] at hb
        omega
theorem enumT_all {f : Tm} {lo : Int} : ∀ {n : Nat} {e c : Int}, f e = some c → lo ≤ e → e < lo + n → (e, c) ∈ enumT f lo n
  | 0, e, c, h, h1, h2 => by omega
  | n + 1, e, c, h, h1, h2 => by
    refine List.mem_append.2 ?_
    by_cases he : e = lo + n
    · right
      rw [← he, h]; simp
    · left
      exact enumT_all h h1 (by omega)
theorem enumT_sum (f : Tm) (G : Int → Int) (lo : Int) : ∀ n : Nat, ((enumT f lo n).map fun y => y.2 * G y.1).sum = sI lo n (fun i => tv f i * G i)
  | 0 => rfl
  | n + 1 => by
    unfold enumT
    rw [List.map_append, List.sum_append, enumT_sum f G lo n]
    simp only [sI]
    congr 1
    unfold tv
    cases f (lo + n) <;> simp
theorem IsT.mul {B C : Nat} {f g : Tm} {a b : LP} (h1 : IsT B f a) (h2 : IsT C g b) (ha : Sup B a) : IsT (B + C) (wT (tmul f g)) (a * b) := by
  have hE : Enum f (enumT f (-(B : Int)) (2 * B + 1)) := ⟨fun y hy => (enumT_mem hy).1, enumT_nodup _⟩
  have hF : Full f (enumT f (-(B : Int)) (2 * B + 1)) := fun e c hc => by
    have := h1.bd e (by rw [hc]; rfl)
    exact enumT_all hc (by omega) (by omega)
  rw [tmul_eq hE hF]
  refine ⟨fun e => ?_, fun e he => ?_⟩
  · rw [tv_wT, wrp_wrp, tv_gM, enumT_sum f (fun i => tv g (e - i)), LP.mul_f, cvF_eq a b e ha.win]
    refine wrp_sum (fun i _ _ => ?_)
    rw [← wrp_mull, ← wrp_mulr, h1.val, h2.val, wrp_mulr, wrp_mull]
  · rw [wT_some] at he
    unfold gM at he
    split at he
    · rename_i hh
      obtain ⟨y, hy, hh⟩ := List.any_eq_true.1 hh
      have k1 := enumT_mem hy
      have k2 := h2.bd _ hh
      omega
    · cases he
theorem isT_mono (c e : Int) {B : Nat} (h : -(B : Int) ≤ e ∧ e ≤ B) : IsT B (fun x => if x = e then some c else none) (LP.mono c e) := by
  refine ⟨fun x => ?_, fun x hx => ?_⟩
  · unfold tv
    rw [LP.mono_f]
    by_cases hh : x = e
    · simp only [if_pos hh]; rfl
    · simp only [if_neg hh]; rfl
  · by_cases hh : x = e
    · omega
    · simp only [if_neg hh] at hx; cases hx
theorem isT_none {B : Nat} : IsT B (fun _ => none) 0 := ⟨fun e => rfl, fun e he => by cases he⟩
def T64 (f : Tm) : Prop := ∀ e, in64 (tv f e)
theorem T64.wT (f : Tm) : T64 (wT f) := fun e => by rw [tv_wT]; exact wrp_64 _
theorem polyW_s {f : Tm} {a : LP} {B : Nat} (h : IsT B f a) (h64 : T64 f) (hB : B ≤ 1000000) : SC Try.prog 11 [.fmap (mi f)] (ppo (poW a)) := by
  have := poly_s f B hB h.bd
  have e1 : cano (tv f) = poW a := congrArg cano (funext fun e => by rw [← h.val, wrp_in (h64 e)])
  rwa [e1] at this
end Go.Proofs.Ytdlpbpfcgjgppaa

/- Facts and contracts that the claim uses. No condition of its own. -/
set_option linter.unusedVariables false
set_option linter.unusedSimpArgs false
namespace Go.Proofs.Ytdlpbpfcgjgppaa
theorem nbeq {a b : Nat} : Nat.beq a b = true ↔ a = b := ⟨Nat.eq_of_beq_eq_true, fun e => by subst e; exact Nat.beq_refl a⟩
def lblJ (L : List Nat) (p : Nat × Nat) : List Nat := (fun a b => L.map fun z => if z = a then b else z) (L.getD p.1 0) (L.getD p.2 0)
def lbl (N : Nat) (ps : List (Nat × Nat)) : List Nat := ps.foldl lblJ (List.range N)
theorem lbl_go {N : Nat} : ∀ (ps : List (Nat × Nat)) (r : Nat → Nat) (L : List Nat), L.length = N → (∀ x, x < N → r x = L.getD x 0) → (∀ p ∈ ps, p.1 < N ∧ p.2 < N) → ∀ x, x < N → joinA r ps x = (ps.foldl lblJ L).getD x 0
  | [], r, L, _, h, _, x, hx => h x hx
  | p :: ps, r, L, hl, h, hp, x, hx => by
    obtain ⟨h1, h2⟩ := hp p (by simp)
    refine lbl_go ps _ _ (by simp [lblJ, hl]) (fun y hy => ?_) (fun q hq => hp q (by simp [hq])) x hx
    unfold joinR lblJ
    simp only
    rw [← h _ h1, ← h _ h2]
    have : (L.map fun z => if z = r p.1 then r p.2 else z).getD y 0 = if L.getD y 0 = r p.1 then r p.2 else L.getD y 0 := by
      simp [List.getD, hl, hy]
    rw [this, ← h y hy]
theorem lbl_spec {N : Nat} {ps : List (Nat × Nat)} (hp : ∀ p ∈ ps, p.1 < N ∧ p.2 < N) {x : Nat} (hx : x < N) : joinA id ps x = (lbl N ps).getD x 0 :=
  lbl_go ps id (List.range N) (by simp) (fun x hx => by simp [List.getD, hx]) hp x hx
def cntL (N : Nat) (L : List Nat) : Nat := ((List.range N).filter fun x => Nat.beq (L.getD x 0) x).length
theorem cntL_ok {N : Nat} {ps : List (Nat × Nat)} (hp : ∀ p ∈ ps, p.1 < N ∧ p.2 < N) : sN (fun x => ind (joinA id ps x = x)) N = cntL N (lbl N ps) := by
  rw [← rts_len]
  unfold rts cntL
  congr 1
  refine List.filter_congr fun x hx => ?_
  rw [lbl_spec hp (List.mem_range.1 hx), Bool.eq_iff_iff, decide_eq_true_eq, nbeq]
def stkC (n m : Nat) (f : Nat → Nat → Nat) (o : Nat → Nat) (c : Nat) : Bool :=
  (fun L => (List.range (2 * n)).all (fun i => Nat.blt (o i) (2 * n) && !Nat.beq (o i) i && Nat.beq (L.getD (outM n m i) 0) (L.getD (outM n m (o i)) 0) && (List.range (2 * n)).all fun k => Nat.beq k i || Nat.beq k (o i) || !Nat.beq (L.getD (outM n m i) 0) (L.getD (outM n m k) 0))
    && Nat.beq (cntL (n * (m + 1)) L) (n + c)) (lbl (n * (m + 1)) (ppK n f m))
theorem outM_lt {n m i : Nat} (hi : i < 2 * n) : outM n m i < n * (m + 1) := by
  have : n * (m + 1) = n * m + n := by rw [Nat.mul_add, Nat.mul_one]
  unfold outM
  split <;> omega
theorem stkC_ok {n m : Nat} {f : Nat → Nat → Nat} {o : Nat → Nat} {c : Nat} (hf : ∀ j, j < m → Mt n (f j)) (h : stkC n m f o c = true) : Stk n m f o c := by
  unfold stkC at h
  simp only [Bool.and_eq_true, List.all_eq_true, List.mem_range, Nat.blt_eq, Bool.not_eq_true', Bool.or_eq_true, nbeq] at h
  obtain ⟨h1, h2⟩ := h
  have hp := ppK_lt m hf
  have key : ∀ i, i < 2 * n → o i < 2 * n ∧ o i ≠ i ∧ joinA id (ppK n f m) (outM n m i) = joinA id (ppK n f m) (outM n m (o i)) ∧ ∀ k', k' < 2 * n → k' ≠ i → joinA id (ppK n f m) (outM n m i) = joinA id (ppK n f m) (outM n m k') → k' = o i := fun i hi => by
    obtain ⟨⟨⟨g1, g2⟩, g3⟩, g4⟩ := h1 i hi
    have g2' : o i ≠ i := fun e => by rw [e, Nat.beq_refl] at g2; cases g2
    refine ⟨g1, g2', by rw [lbl_spec hp (outM_lt hi), lbl_spec hp (outM_lt g1), g3], fun k' q1 q2 q3 => ?_⟩
    rw [lbl_spec hp (outM_lt hi), lbl_spec hp (outM_lt q1)] at q3
    rcases g4 k' q1 with (g | g) | g
    · exact absurd g q2
    · exact g
    · rw [q3, Nat.beq_refl] at g; cases g
  exact ⟨mt_of_key key, key, by rw [cntL_ok hp]; exact h2⟩
theorem Stk.uniq {n m c c' : Nat} {f : Nat → Nat → Nat} {o o' : Nat → Nat} (h : Stk n m f o c) (h' : Stk n m f o' c') : (∀ i, i < 2 * n → o i = o' i) ∧ c = c' := by
  refine ⟨fun i hi => ?_, by have := h.cnt; have := h'.cnt; omega⟩
  obtain ⟨a1, a2, a3, _⟩ := h.key i hi
  exact (h'.key i hi).2.2.2 _ a1 a2 a3
end Go.Proofs.Ytdlpbpfcgjgppaa
