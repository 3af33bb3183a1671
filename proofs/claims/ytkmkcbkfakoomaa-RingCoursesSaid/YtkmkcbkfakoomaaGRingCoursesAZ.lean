/- Facts and contracts that the claim uses. No condition of its own. -/
import Derived.Test.YtkmkcbkfakoomaaGRingCoursesAW
import Derived.Test.YtkmkcbkfakoomaaGRingCoursesAX
import Derived.Test.YtkmkcbkfakoomaaGRingCoursesAY
set_option linter.unusedVariables false
set_option linter.unusedSimpArgs false
namespace Go.Proofs.Ytkmkcbkfakoomaa
open Go.RowKit
theorem take_eq_succ {xs ys : List Int} {k : Nat} (h1 : k < xs.length) (h2 : k < ys.length) (h : xs.take k = ys.take k) (he : xs.getD k 0 = ys.getD k 0) : xs.take (k + 1) = ys.take (k + 1) := by
  rw [List.take_succ_eq_append_getElem h1, List.take_succ_eq_append_getElem h2, h, ← getD_lt 0 h1, ← getD_lt 0 h2, he]
set_option maxHeartbeats 1000000 in
set_option maxRecDepth 100000 in
theorem equal_s (xs ys : List Int) : SC Try.prog 15 [pli xs, pli ys] (.sc (.bool (decide (xs = ys)))) := by
  refine SC.len (callable Try.func15 rfl rfl) (fun hlen => ?_)
  have hx : xs.length ≤ 9223372036854775807 := hlen (pli xs) (by simp)
  clear hlen
  refine SC.go {} tok mixed Try.func15 rfl rfl Try.ntmps15 rfl rfl (by kernel_rfl) ?_
  first | simp only [updS] | simp only [updL, Nat.reduceAdd]
  by_cases hl : xs.length = ys.length
  · repeat (first | refine S0 ?_ | refine S1 ?_ | refine S2 ?_ | refine S3 ?_ | refine S4 ?_ | refine S5 ?_ | refine S6 ?_ | refine S7 ?_ | refine S8 ?_ | refine S9 ?_ | refine S10 ?_ | refine S11 ?_ | refine S12 ?_ | refine S13 ?_ | refine S15 ?_ | refine S16 ?_ | refine S19 ?_ | refine S20 ?_ | refine S21 ?_ | refine S22 ?_ | refine S23 ?_ | refine S25 ?_ | refine S26 ?_ | refine S29 ?_)
    refine CW.loopS (fun k : Nat => k ≤ xs.length ∧ xs.take k = ys.take k) (fun k => [(0, pli xs), (1, pli ys), (12, pint xs.length), (13, pint k)]) (fun _ _ => True) (fun k => xs.length - k) 0 ⟨⟨by omega, rfl⟩, SLx, trivial⟩ ?_
    intro k t h ⟨hk, hg⟩ _
    first | simp only [updS] | simp only [updL, Nat.reduceAdd]
    by_cases hk2 : k < xs.length
    · by_cases he : xs.getD k 0 = ys.getD k 0
      · repeat (first | refine S0 ?_ | refine S1 ?_ | refine S2 ?_ | refine S3 ?_ | refine S4 ?_ | refine S5 ?_ | refine S6 ?_ | refine S7 ?_ | refine S8 ?_ | refine S9 ?_ | refine S10 ?_ | refine S11 ?_ | refine S12 ?_ | refine S13 ?_ | refine S15 ?_ | refine S16 ?_ | refine S19 ?_ | refine S20 ?_ | refine S21 ?_ | refine S22 ?_ | refine S23 ?_ | refine S25 ?_ | refine S26 ?_ | refine S29 ?_)
        exact ⟨k + 1, ⟨by omega, take_eq_succ hk2 (by omega) hg he⟩, SLx, trivial, by omega⟩
      · repeat (first | refine S0 ?_ | refine S1 ?_ | refine S2 ?_ | refine S3 ?_ | refine S4 ?_ | refine S5 ?_ | refine S6 ?_ | refine S7 ?_ | refine S8 ?_ | refine S9 ?_ | refine S10 ?_ | refine S11 ?_ | refine S12 ?_ | refine S13 ?_ | refine S15 ?_ | refine S16 ?_ | refine S19 ?_ | refine S20 ?_ | refine S21 ?_ | refine S22 ?_ | refine S23 ?_ | refine S25 ?_ | refine S26 ?_ | refine S29 ?_)
        refine ⟨.inr rfl, ?_⟩
        rw [show decide (xs = ys) = false from decide_eq_false (fun e => he (by rw [e]))]
        exact .cl rfl
    · repeat (first | refine S0 ?_ | refine S1 ?_ | refine S2 ?_ | refine S3 ?_ | refine S4 ?_ | refine S5 ?_ | refine S6 ?_ | refine S7 ?_ | refine S8 ?_ | refine S9 ?_ | refine S10 ?_ | refine S11 ?_ | refine S12 ?_ | refine S13 ?_ | refine S15 ?_ | refine S16 ?_ | refine S19 ?_ | refine S20 ?_ | refine S21 ?_ | refine S22 ?_ | refine S23 ?_ | refine S25 ?_ | refine S26 ?_ | refine S29 ?_)
      refine ⟨.inr rfl, ?_⟩
      have e : xs = ys := by rw [List.take_of_length_le (by omega), List.take_of_length_le (by omega)] at hg; exact hg
      rw [show decide (xs = ys) = true from decide_eq_true e]
      exact .cl rfl
  · repeat (first | refine S0 ?_ | refine S1 ?_ | refine S2 ?_ | refine S3 ?_ | refine S4 ?_ | refine S5 ?_ | refine S6 ?_ | refine S7 ?_ | refine S8 ?_ | refine S9 ?_ | refine S10 ?_ | refine S11 ?_ | refine S12 ?_ | refine S13 ?_ | refine S15 ?_ | refine S16 ?_ | refine S19 ?_ | refine S20 ?_ | refine S21 ?_ | refine S22 ?_ | refine S23 ?_ | refine S25 ?_ | refine S26 ?_ | refine S29 ?_)
    refine ⟨.inr rfl, ?_⟩
    rw [show decide (xs = ys) = false from decide_eq_false (fun e => hl (by rw [e]))]
    exact .cl rfl
set_option maxHeartbeats 1000000 in
set_option maxRecDepth 100000 in
theorem clip_s (xs : List Int) : SC Try.prog 35 [pli xs] (.lst true 1 xs.length (ints xs)) := by
  refine SC.go {} tok mixed Try.func35 rfl rfl Try.ntmps35 rfl rfl (by kernel_rfl) ?_
  first | simp only [updS] | simp only [updL, Nat.reduceAdd]
  repeat (first | refine S0 ?_ | refine S1 ?_ | refine S2 ?_ | refine S7 ?_ | refine S8 ?_ | refine S19 ?_ | refine S20 ?_ | refine S23 ?_ | refine S58 ?_)
  exact ⟨.inr rfl, .cl (by exact (show (PV.lst true 1 xs.length (ints xs)).cl = true by simp [PV.cl, ints_cl]))⟩
end Go.Proofs.Ytkmkcbkfakoomaa

/- Facts and contracts that the claim uses. No condition of its own. -/
set_option linter.unusedVariables false
set_option linter.unusedSimpArgs false
namespace Go.Proofs.Ytkmkcbkfakoomaa
open Go.RowKit
variable {P : Program} {T : TypeId → TI} {M : Hn} {t : Nat → PV} {h : HP} {n : Nat} {Q : Exit → AS → Prop}
theorem HRel.nrm {w0 : World} {Z0 : Nat → Prop} {ρ : Pl} {w : World} (H : HRel w0 Z0 ρ h w) {tk : Nat} {cs : List PV} (ht : h.blk tk = some cs) :
    HRel w0 Z0 ρ (h.set tk (cs.map PV.nrm0)) w ∧ ∀ pv u, V ρ (Zof Z0 ρ h) w pv u → V ρ (Zof Z0 ρ (h.set tk (cs.map PV.nrm0))) w pv u := by
  have hZ : ∀ k, Zof Z0 ρ (h.set tk (cs.map PV.nrm0)) k → Zof Z0 ρ h k := by
    rintro k (hk | ⟨x, c, o', h1, h2⟩ | hk)
    · exact .inl hk
    · by_cases e : x = tk
      · subst e; exact .inr (.inl ⟨x, cs, o', ht, h2⟩)
      · rw [HP.set_other _ _ e] at h1; exact .inr (.inl ⟨x, c, o', h1, h2⟩)
    · exact .inr (.inr hk)
  have up : ∀ pv u, V ρ (Zof Z0 ρ h) w pv u → V ρ (Zof Z0 ρ (h.set tk (cs.map PV.nrm0))) w pv u := fun pv u hV => hV.ext (Ext.refl _ _) (fun k _ hk => hZ k hk) (fun _ _ h => h)
  have back : ∀ x c, (h.set tk (cs.map PV.nrm0)).blk x = some c → ∃ c', h.blk x = some c' := fun x c hc => by
    by_cases e : x = tk
    · subst e; exact ⟨cs, ht⟩
    · rw [HP.set_other _ _ e] at hc; exact ⟨c, hc⟩
  refine ⟨⟨H.below, H.z0, fun x c h1 => ?_, fun x x' c c' k o1 o2 h1 h2 r1 r2 => ?_, fun x hx => ?_, fun x c h1 => ?_, H.sinj, fun x hw => ?_⟩, up⟩
  · by_cases e : x = tk
    · subst e
      rw [HP.set_same] at h1; cases h1
      rcases H.live x cs ht with ⟨hn, hn2⟩ | ⟨b2, o2, a2, T2, g1, g2, g3, g4, g5⟩
      · exact .inl ⟨by rw [hn]; simp, hn2⟩
      · refine .inr ⟨b2, o2, a2, T2, g1, g2, g3, by simpa using g4, fun i hi => up _ _ ?_⟩
        have hi' : i < cs.length := by simpa using hi
        have := (g5 i hi').nrm0
        simp only [List.getD, hi', List.getElem?_eq_getElem, Option.getD_some] at this
        simp only [List.getD, List.getElem?_map, hi', List.getElem?_eq_getElem, Option.getD_some, Option.map_some]
        exact this
    · rw [HP.set_other _ _ e] at h1
      rcases H.live x c h1 with hn | ⟨b2, o2, a2, T2, g1, g2, g3, g4, g5⟩
      · exact .inl hn
      · exact .inr ⟨b2, o2, a2, T2, g1, g2, g3, g4, fun i hi => up _ _ (g5 i hi)⟩
  · obtain ⟨d1, k1⟩ := back x c h1
    obtain ⟨d2, k2⟩ := back x' c' h2
    exact H.inj x x' d1 d2 k o1 o2 k1 k2 r1 r2
  · have := H.free x hx
    have e : x ≠ tk := fun e => by rw [e, ht] at this; cases this.1
    exact ⟨by rw [HP.set_other _ _ e]; exact this.1, this.2⟩
  · obtain ⟨b, obj, g1, g2, g3, g4⟩ := H.slive x c h1
    exact ⟨b, obj, g1, g2, g3, g4.ext (Ext.refl _ _) (fun k _ hz' => hZ k hz') (fun _ _ h => h)⟩
  · obtain ⟨q1, q2, q3⟩ := H.wfree x hw
    exact ⟨by rw [HP.set_other _ _ (fun e => by rw [e, ht] at q1; cases q1)]; exact q1, q2, q3⟩
theorem CW.midS {ι : Type} {c : Code} {s : AS} {next : AS → Prop} (C : ι → Prop) (sl : ι → List (Nat × PV)) (hp : ι → HP → Prop) (h1 : CW P T M n c s (TQ (fun s' => ∃ i, C i ∧ allS (sl i) s'.tmps ∧ hp i s'.hp) Q)) (h2 : ∀ i t h, C i → hp i h → next ⟨updS (sl i) t, h⟩) : CW P T M n c s (TQ next Q) := by
  refine ⟨fun q1 q2 q3 => .mono (h1.out q1 q2 q3) (fun e s' hh => ⟨?_⟩)⟩
  have := hh.out
  cases e with
  | normal =>
    obtain ⟨i, k1, k2, k3⟩ := this
    have := h2 i s'.tmps s'.hp k1 k3
    rw [updS_eta _ _ k2] at this
    exact this
  | _ => exact this
theorem AW.slrTo {cl : Oper → Cls} {ops : Array Oper} {l : List Oper} {K : AS → Prop} {d : Nat} {ty : TypeId} {pos : String} {aft : Array Edge} {tt : TypeId} {x hi : Operand} {el bs m tk off q : Nat} {zc : List Value} {k1 : IntKind} {z : Int} (hx : evA t x = .ref tk off 1 m) (ht : T tt = .sl el 1 bs zc) (hl : evA t hi = .sc (.int k1 z)) (hz : z = (q : Int)) (hb : q ≤ m)
    (hk : AW P T M cl ops l ⟨upd t d (.ref tk off 1 q), h⟩ K) : AW P T M cl ops (⟨some d, .slice tt x none (some hi) none, ty, pos, aft, none⟩ :: l) ⟨t, h⟩ K := by
  subst hz
  have := AW.slr (P := P) (M := M) (cl := cl) (ops := ops) (l := l) (h := h) (K := K) (d := d) (ty := ty) (pos := pos) (aft := aft) (lo := none) (hi := some hi) hx ht rfl ⟨_, hl⟩ ⟨Int.le_refl _, by omega, by omega⟩
  rw [show off + (0 : Int).toNat * 1 = off by simp, show ((q : Nat) : Int).toNat - (0 : Int).toNat = q by simp] at this
  exact this hk
end Go.Proofs.Ytkmkcbkfakoomaa
