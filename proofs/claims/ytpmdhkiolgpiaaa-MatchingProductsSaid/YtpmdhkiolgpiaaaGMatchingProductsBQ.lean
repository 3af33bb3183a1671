/- temperleylieb.newGraph; its rows as slices of one's own. No condition of its own. -/
import Derived.Test.YtpmdhkiolgpiaaaGMatchingProductsBP
import Derived.Test.YtpmdhkiolgpiaaaGMatchingProductsAZ
set_option linter.unusedVariables false
set_option linter.unusedSimpArgs false
namespace Go.Proofs.Ytpmdhkiolgpiaaa
open Go.RowKit

section
variable {P : Program} {TT : TypeId → TI} {M : Hn} {N0 : Nat} {c : Code} {t : Nat → PV} {Q : Exit → AS → Prop}
/-- the cells of the rows, the first j made one's own -/
def ocs (m j s' : Nat) (tk : Nat → Nat) : List PV := (List.range m).map fun v => if v < j then PV.ref (tk v) 0 1 0 else .lst true s' 0 []
theorem ocs_set {m j s' t' : Nat} {tk : Nat → Nat} (h : j < m) : (ocs m j s' tk).set j (.ref t' 0 1 0) = ocs m (j + 1) s' (ovr tk j t') := by
  apply List.ext_getElem (by simp [ocs])
  intro i g1 g2
  rw [List.getElem_set]
  simp only [ocs, List.getElem_map, List.getElem_range]
  by_cases e : j = i
  · subst e; rw [if_pos rfl, if_pos (by omega), ovr_same]
  · rw [if_neg e]
    by_cases c : i < j
    · rw [if_pos c, if_pos (by omega), ovr_ne _ _ (by omega)]
    · rw [if_neg c, if_neg (by omega)]
theorem ocs_get {m j s' : Nat} {tk : Nat → Nat} (h : j < m) : (ocs m j s' tk)[j]? = some (.lst true s' 0 []) := by simp [ocs, h]
theorem ocs_all (m s' : Nat) (tk : Nat → Nat) : ocs m m s' tk = gcs m tk (fun _ => 0) (fun _ => []) := by
  unfold ocs gcs
  apply List.map_congr_left
  intro v hv
  rw [if_pos (List.mem_range.1 hv)]
  rfl
theorem ocs_zero (m s' : Nat) (tk : Nat → Nat) : ocs m 0 s' tk = List.replicate m (.lst true s' 0 []) := by
  apply List.ext_getElem (by simp [ocs])
  intro i g1 g2
  simp [ocs]
theorem ownAll {m s' T : Nat} {h0 : HP} (hT : T < 2 * h0.next) (hev : T % 2 = 0)
    (hk : ∀ tk h', GH m T tk (fun _ => 0) (fun _ => []) h' → (∀ v, v < m → 2 * h0.next ≤ tk v) → Fr [T] h0 h' → CW P TT M N0 c ⟨t, h'⟩ Q) :
    ∀ (d j : Nat) (tk : Nat → Nat) (h : HP), j + d = m → h.blk T = some (ocs m j s' tk) → (∀ v, v < j → h.blk (tk v) = some []) → (∀ a b, a < j → b < j → tk a = tk b → a = b) → (∀ v, v < j → 2 * h0.next ≤ tk v ∧ tk v < 2 * h.next ∧ tk v % 2 = 0) → Fr [T] h0 h → CW P TT M N0 c ⟨t, h⟩ Q
  | 0, j, tk, h, e, hb, hr, hi, hl, hF => by
    obtain rfl : j = m := by omega
    have := hF.next
    refine hk tk h ⟨by rw [hb, ocs_all], fun v hv => ⟨[], rfl, hr v hv⟩, hi, fun v hv => by have := hl v hv; omega, fun v hv => (hl v hv).2.2, hev, fun v hv => (hl v hv).2.1, by omega⟩ (fun v hv => (hl v hv).1) hF
  | d + 1, j, tk, h, e, hb, hr, hi, hl, hF => by
    have hnx := hF.next
    have tn : h.tok false = 2 * h.next := HP.tokF _
    refine CW.ownC T j 1 hb (ocs_get (by omega)) (by omega) ?_
    rw [ocs_set (by omega), tn]
    have ob : ∀ x, x ≠ T → x < 2 * h.next → ((h.add false []).set T (ocs m (j + 1) s' (ovr tk j (2 * h.next)))).blk x = h.blk x := fun x h1 h2 => (HP.set_other _ _ h1).trans (HP.add_other _ _ _ (by rw [tn]; omega))
    refine ownAll hT hev hk d (j + 1) (ovr tk j (2 * h.next)) _ (by omega) (HP.set_same _ _ _) (fun v hv => ?_) (fun a b ha hb e => ?_) (fun v hv => ?_) ((hF.add false []).set _ (.inl (List.mem_singleton.2 rfl)))
    · by_cases e : v = j
      · rw [e, ovr_same]
        refine (HP.set_other _ _ (by omega)).trans ?_
        have := HP.add_same h false []
        rwa [tn] at this
      · rw [ovr_ne _ _ e]
        have := hl v (by omega)
        rw [ob _ (by omega) (by omega)]
        exact hr v (by omega)
    · by_cases e1 : a = j
      · by_cases e2 : b = j
        · omega
        · rw [e1, ovr_same, ovr_ne _ _ e2] at e
          have := hl b (by omega)
          omega
      · by_cases e2 : b = j
        · rw [e2, ovr_same, ovr_ne _ _ e1] at e
          have := hl a (by omega)
          omega
        · rw [ovr_ne _ _ e1, ovr_ne _ _ e2] at e
          exact hi a b (by omega) (by omega) e
    · by_cases e : v = j
      · rw [e, ovr_same]
        exact ⟨by omega, by show _ < 2 * (h.next + 1); omega, by omega⟩
      · rw [ovr_ne _ _ e]
        have := hl v (by omega)
        exact ⟨this.1, by show _ < 2 * (h.next + 1); omega, this.2.2⟩
end
set_option maxHeartbeats 4000000 in
set_option maxRecDepth 100000 in
theorem newGraph_e {m : Nat} (hm : m ≤ 100) (h : HP) :
    SChE Try.prog 39 [pint m] h (fun r h' => r = .ptr (2 * (h.next + 1) + 1) 0 ∧ h'.blk (2 * (h.next + 1) + 1) = some [.ref (2 * h.next) 0 1 m] ∧ h'.blk (2 * h.next) = some (List.replicate m (.lst true 0 0 [])) ∧ h'.next = h.next + 2 ∧ Fr [] h h') := by
  refine SChE.go { mt := [6] } tok mixed Try.func39 rfl rfl Try.ntmps39 rfl rfl (by kernel_rfl) (fun hw => ?_)
  first | simp only [updS] | simp only [updL, Nat.reduceAdd]
  repeat (first | refine S0 ?_ | refine S1 ?_ | refine S2 ?_ | refine S7 ?_ | refine S8 ?_ | refine S19 ?_ | refine S20 ?_ | refine S42 ?_ | refine S69 ?_ | refine S72 ?_)
  have e1 : h.tok false = 2 * h.next := HP.tokF _
  have e2 : (h.add false (List.replicate m (.lst true 0 0 []))).tok true = 2 * (h.next + 1) + 1 := HP.tokT _
  refine ⟨.inr rfl, _, ⟨_, rfl, rfl⟩, ?_, ?_, ?_, rfl, ((Fr.refl _ _).add _ _).add _ _⟩
  · show PV.ptr ((h.add false (List.replicate m (.lst true 0 0 []))).tok true) 0 = _
    rw [e2]
  · have := HP.add_same (h.add false (List.replicate m (.lst true 0 0 []))) true [.ref (2 * h.next) 0 1 m]
    rw [e2] at this
    rw [← e1] at this ⊢
    exact this
  · refine (HP.add_other _ _ _ ?_).trans ?_
    · show _ ≠ (h.add false (List.replicate m (.lst true 0 0 []))).tok true
      rw [e2]; omega
    · have := HP.add_same h false (List.replicate m (.lst true 0 0 []))
      rwa [e1] at this
end Go.Proofs.Ytpmdhkiolgpiaaa
