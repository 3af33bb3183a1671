/- Facts and contracts that the claim uses. No condition of its own. -/
import Derived.Test.YtdlpbpfcgjgppaaGJonesStatesBM
import Derived.Test.YtdlpbpfcgjgppaaGJonesStatesBK
set_option linter.unusedVariables false
set_option linter.unusedSimpArgs false
namespace Go.Proofs.Ytdlpbpfcgjgppaa
open Go.RowKit
theorem wg_len {n : Nat} {g g' : Lns} {p e : Nat} (h : Wg g p g' e) : Gr n g → p < n → ∀ v, (g' v).length ≤ (g v).length := by
  induction h with
  | stop h => exact fun _ _ v => Nat.le_refl _
  | step e hw ih =>
    intro hg hp v
    obtain ⟨h1, h2, _, _⟩ := hg.cut hp e
    have a := ih h1 h2 v
    have b := cut_len hg hp e v
    omega
theorem GH.ntf {n T tf : Nat} {tk off : Nat → Nat} {g : Lns} {h : HP} (H : GH n T tk off g h) (ho : tf % 2 = 1) : tf ∉ T :: (List.range n).map tk := fun hm => by
  rcases List.mem_cons.1 hm with e | hm
  · have := H.evT; omega
  · obtain ⟨j, hj, rfl⟩ := List.mem_map.1 hm
    have := H.ev j (List.mem_range.1 hj)
    omega
set_option maxHeartbeats 16000000 in
set_option maxRecDepth 100000 in
theorem loops_e {n T tf : Nat} {tk off0 : Nat → Nat} {g0 : Lns} (hn : n ≤ 100) (hg0 : Gr n g0) (hd0 : ∀ v, (g0 v).length ≤ 100) (h : HP) (hv : h.blk tf = some [.ref T 0 1 n]) (H : GH n T tk off0 g0 h) (ho : tf % 2 = 1) (hlt : tf < 2 * h.next) :
    SChE Try.prog 77 [.ptr tf 0] h (fun r h' => ∃ c : Nat, r = pint c ∧ Lp n 0 g0 c ∧ Fr (T :: (List.range n).map tk) h h') := by
  refine SChE.go {} tok mixed Try.func77 rfl rfl Try.ntmps77 rfl rfl (by kernel_rfl) (fun hw => ?_)
  first | simp only [updS] | simp only [updL, Nat.reduceAdd]
  repeat (first | refine S0 ?_ | refine S1 ?_ | refine S2 ?_ | refine S4 ?_ | refine S5 ?_ | refine S6 ?_ | refine S7 ?_ | refine S8 ?_ | refine S10 ?_ | refine S11 ?_ | refine S13 ?_ | refine S15 ?_ | refine S16 ?_ | refine S19 ?_ | refine S20 ?_ | refine S21 ?_ | refine S22 ?_ | refine S24 ?_ | refine S27 ?_ | refine S30 ?_ | refine S45 ?_ | refine S46 ?_ | refine S67 ?_)
  refine CW.loopS (fun i : Lns × Nat × (Nat → Nat) × Nat => i.2.1 ≤ n ∧ Gr n i.1 ∧ (∀ v, (i.1 v).length ≤ 100) ∧ i.2.2.2 ≤ i.2.1 ∧ ∀ c, Lp n i.2.1 i.1 c → Lp n 0 g0 (i.2.2.2 + c)) (fun i => [(0, .ptr tf 0), (9, pint n), (10, pint i.2.1), (3, pint i.2.2.2)])
    (fun i hp => GH n T tk i.2.2.1 i.1 hp ∧ hp.blk tf = some [.ref T 0 1 n] ∧ Fr (T :: (List.range n).map tk) h hp) (fun i => n - i.2.1) (g0, 0, off0, 0) ⟨⟨Nat.zero_le _, hg0, hd0, Nat.le_refl _, fun c h => by simpa using h⟩, SLx, H, hv, Fr.refl _ _⟩ ?_
  clear H hv
  rintro ⟨g, p, off, k⟩ t hp ⟨hpn, hg, hd, hk, hW⟩ ⟨H, hv, hF⟩
  simp only at hpn hg hd hk hW H
  first | simp only [updS] | simp only [updL, Nat.reduceAdd]
  have b0 := H.out
  have evT := H.evT
  have lT := H.ltT
  have hl := gcs_len n tk off g
  have hnx := hF.next
  by_cases hpl : p < n
  · have hdp := hd p
    by_cases e : g p = []
    · have hln : (g p).length = 0 := by rw [e]; rfl
      repeat (first | refine S0 ?_ | refine S1 ?_ | refine S2 ?_ | refine S4 ?_ | refine S5 ?_ | refine S6 ?_ | refine S7 ?_ | refine S8 ?_ | refine S10 ?_ | refine S11 ?_ | refine S13 ?_ | refine S15 ?_ | refine S16 ?_ | refine S19 ?_ | refine S20 ?_ | refine S21 ?_ | refine S22 ?_ | refine S24 ?_ | refine S27 ?_ | refine S30 ?_ | refine S45 ?_ | refine S46 ?_ | refine S67 ?_)
      rw [show 0 + (p : Int).toNat * 1 = p by simp]
      refine AW.ldm EVx (by first | exact Or.inl rfl | exact Or.inr ⟨rfl, HP.tok_even _⟩ | exact Or.inr (Or.inl ⟨rfl, HP.tok_even _⟩) | exact Or.inr (Or.inr ⟨rfl, HP.tok_odd _⟩) | exact Or.inr (Or.inl rfl) | exact Or.inr (Or.inr (Or.inl rfl)) | exact Or.inr (Or.inr (Or.inr (Or.inl ⟨rfl, HP.tok_odd _⟩))) | exact Or.inr (Or.inr (Or.inr (Or.inr ⟨rfl, HP.tok_even _⟩))) | exact Or.inr (Or.inr (Or.inr (Or.inr ⟨rfl, by assumption⟩))) | exact Or.inr ⟨rfl, by assumption⟩ | exact Or.inr (Or.inl ⟨rfl, by assumption⟩) | exact Or.inr (Or.inr ⟨rfl, by assumption⟩) | exact Or.inr (Or.inr (Or.inr (Or.inl ⟨rfl, by assumption⟩))) | exact Or.inr (Or.inr (Or.inl ⟨rfl, HP.tok_odd _⟩)) | exact Or.inr (Or.inr (Or.inl ⟨rfl, by assumption⟩)) | exact Or.inr (Or.inr (Or.inr rfl)) | exact Or.inr (Or.inr rfl) | exact Or.inr rfl) rfl b0 (gcs_get hpl) ?_
      repeat (first | refine S0 ?_ | refine S1 ?_ | refine S2 ?_ | refine S4 ?_ | refine S5 ?_ | refine S6 ?_ | refine S7 ?_ | refine S8 ?_ | refine S10 ?_ | refine S11 ?_ | refine S13 ?_ | refine S15 ?_ | refine S16 ?_ | refine S19 ?_ | refine S20 ?_ | refine S21 ?_ | refine S22 ?_ | refine S24 ?_ | refine S27 ?_ | refine S30 ?_ | refine S45 ?_ | refine S46 ?_ | refine S67 ?_)
      exact ⟨(g, p + 1, off, k), ⟨by simp only; omega, hg, hd, by simp only; omega, fun c hc => hW c (.skip hpl e hc)⟩, SLx, ⟨H, hv, hF⟩, by simp only; omega⟩
    · have hln : 0 < (g p).length := List.length_pos_iff.2 e
      have kw := walk_e hn hg hd hpl hp hv H ho (by omega)
      repeat (first | refine S0 ?_ | refine S1 ?_ | refine S2 ?_ | refine S4 ?_ | refine S5 ?_ | refine S6 ?_ | refine S7 ?_ | refine S8 ?_ | refine S10 ?_ | refine S11 ?_ | refine S13 ?_ | refine S15 ?_ | refine S16 ?_ | refine S19 ?_ | refine S20 ?_ | refine S21 ?_ | refine S22 ?_ | refine S24 ?_ | refine S27 ?_ | refine S30 ?_ | refine S45 ?_ | refine S46 ?_ | refine S67 ?_)
      rw [show 0 + (p : Int).toNat * 1 = p by simp]
      refine AW.ldm EVx (by first | exact Or.inl rfl | exact Or.inr ⟨rfl, HP.tok_even _⟩ | exact Or.inr (Or.inl ⟨rfl, HP.tok_even _⟩) | exact Or.inr (Or.inr ⟨rfl, HP.tok_odd _⟩) | exact Or.inr (Or.inl rfl) | exact Or.inr (Or.inr (Or.inl rfl)) | exact Or.inr (Or.inr (Or.inr (Or.inl ⟨rfl, HP.tok_odd _⟩))) | exact Or.inr (Or.inr (Or.inr (Or.inr ⟨rfl, HP.tok_even _⟩))) | exact Or.inr (Or.inr (Or.inr (Or.inr ⟨rfl, by assumption⟩))) | exact Or.inr ⟨rfl, by assumption⟩ | exact Or.inr (Or.inl ⟨rfl, by assumption⟩) | exact Or.inr (Or.inr ⟨rfl, by assumption⟩) | exact Or.inr (Or.inr (Or.inr (Or.inl ⟨rfl, by assumption⟩))) | exact Or.inr (Or.inr (Or.inl ⟨rfl, HP.tok_odd _⟩)) | exact Or.inr (Or.inr (Or.inl ⟨rfl, by assumption⟩)) | exact Or.inr (Or.inr (Or.inr rfl)) | exact Or.inr (Or.inr rfl) | exact Or.inr rfl) rfl b0 (gcs_get hpl) ?_
      repeat (first | refine S0 ?_ | refine S1 ?_ | refine S2 ?_ | refine S4 ?_ | refine S5 ?_ | refine S6 ?_ | refine S7 ?_ | refine S8 ?_ | refine S10 ?_ | refine S11 ?_ | refine S13 ?_ | refine S15 ?_ | refine S16 ?_ | refine S19 ?_ | refine S20 ?_ | refine S21 ?_ | refine S22 ?_ | refine S24 ?_ | refine S27 ?_ | refine S30 ?_ | refine S45 ?_ | refine S46 ?_ | refine S67 ?_)
      refine Scalle (args := [.ptr tf 0, pint p]) kw ?_
      rintro r h' ⟨g', e', off', rfl, hw', hg', he', H', F'⟩
      have hv' : h'.blk tf = some [.ref T 0 1 n] := F'.get (by omega) (H.ntf ho) hv
      have hF' := hF.trans F' (fun t ht => .inl ht)
      repeat (first | refine S0 ?_ | refine S1 ?_ | refine S2 ?_ | refine S4 ?_ | refine S5 ?_ | refine S6 ?_ | refine S7 ?_ | refine S8 ?_ | refine S10 ?_ | refine S11 ?_ | refine S13 ?_ | refine S15 ?_ | refine S16 ?_ | refine S19 ?_ | refine S20 ?_ | refine S21 ?_ | refine S22 ?_ | refine S24 ?_ | refine S27 ?_ | refine S30 ?_ | refine S45 ?_ | refine S46 ?_ | refine S67 ?_)
      exact ⟨(g', p + 1, off', k + 1), ⟨by simp only; omega, hg', fun v => Nat.le_trans (wg_len hw' hg hpl v) (hd v), by simp only; omega, fun c hc => by have := hW _ (.take hpl e hw' hc); rw [show k + (c + 1) = k + 1 + c by omega] at this; exact this⟩, SLx, ⟨H', hv', hF'⟩, by simp only; omega⟩
  · obtain rfl : p = n := by omega
    repeat (first | refine S0 ?_ | refine S1 ?_ | refine S2 ?_ | refine S4 ?_ | refine S5 ?_ | refine S6 ?_ | refine S7 ?_ | refine S8 ?_ | refine S10 ?_ | refine S11 ?_ | refine S13 ?_ | refine S15 ?_ | refine S16 ?_ | refine S19 ?_ | refine S20 ?_ | refine S21 ?_ | refine S22 ?_ | refine S24 ?_ | refine S27 ?_ | refine S30 ?_ | refine S45 ?_ | refine S46 ?_ | refine S67 ?_)
    exact ⟨.inr rfl, _, ⟨_, rfl, rfl⟩, k, rfl, by have := hW 0 .done; rwa [Nat.add_zero] at this, hF⟩
end Go.Proofs.Ytdlpbpfcgjgppaa

/- Facts and contracts that the claim uses. No condition of its own. -/
set_option linter.unusedVariables false
set_option linter.unusedSimpArgs false
namespace Go.Proofs.Ytdlpbpfcgjgppaa
open Go.RowKit
section
variable {P : Program} {TT : TypeId → TI} {M : Hn} {N0 : Nat} {c : Code} {t : Nat → PV} {Q : Exit → AS → Prop}
def ocs (m j s' : Nat) (tk : Nat → Nat) : List PV := (List.range m).map fun v => if v < j then PV.ref (tk v) 0 1 0 else .lst true s' 0 []
theorem ocs_set {m j s' t' : Nat} {tk : Nat → Nat} (h : j < m) : (ocs m j s' tk).set j (.ref t' 0 1 0) = ocs m (j + 1) s' (ovr tk j t') := by
  apply List.ext_getElem (by simp [ocs])
  intro i g1 g2
  rw [List.getElem_set]
  simp only [ocs, List.getElem_map, List.getElem_range]
  by_cases e : j = i
  · subst e; rw [if_pos rfl, if_pos (by omega), ovr_same]
  · rw [if_neg e]
    by_cases c : i < j
    · rw [if_pos c, if_pos (by omega), ovr_ne _ _ (by omega)]
    · rw [if_neg c, if_neg (by omega)]
theorem ocs_get {m j s' : Nat} {tk : Nat → Nat} (h : j < m) : (ocs m j s' tk)[j]? = some (.lst true s' 0 []) := by simp [ocs, h]
theorem ocs_all (m s' : Nat) (tk : Nat → Nat) : ocs m m s' tk = gcs m tk (fun _ => 0) (fun _ => []) := by
  unfold ocs gcs
  apply List.map_congr_left
  intro v hv
  rw [if_pos (List.mem_range.1 hv)]
  rfl
theorem ocs_zero (m s' : Nat) (tk : Nat → Nat) : ocs m 0 s' tk = List.replicate m (.lst true s' 0 []) := by
  apply List.ext_getElem (by simp [ocs])
  intro i g1 g2
  simp [ocs]
theorem ownAll {m s' T : Nat} {h0 : HP} (hT : T < 2 * h0.next) (hev : T % 2 = 0)
    (hk : ∀ tk h', GH m T tk (fun _ => 0) (fun _ => []) h' → (∀ v, v < m → 2 * h0.next ≤ tk v) → Fr [T] h0 h' → CW P TT M N0 c ⟨t, h'⟩ Q) :
    ∀ (d j : Nat) (tk : Nat → Nat) (h : HP), j + d = m → h.blk T = some (ocs m j s' tk) → (∀ v, v < j → h.blk (tk v) = some []) → (∀ a b, a < j → b < j → tk a = tk b → a = b) → (∀ v, v < j → 2 * h0.next ≤ tk v ∧ tk v < 2 * h.next ∧ tk v % 2 = 0) → Fr [T] h0 h → CW P TT M N0 c ⟨t, h⟩ Q
  | 0, j, tk, h, e, hb, hr, hi, hl, hF => by
    obtain rfl : j = m := by omega
    have := hF.next
    refine hk tk h ⟨by rw [hb, ocs_all], fun v hv => ⟨[], rfl, hr v hv⟩, hi, fun v hv => by have := hl v hv; omega, fun v hv => (hl v hv).2.2, hev, fun v hv => (hl v hv).2.1, by omega⟩ (fun v hv => (hl v hv).1) hF
  | d + 1, j, tk, h, e, hb, hr, hi, hl, hF => by
    have hnx := hF.next
    have tn : h.tok false = 2 * h.next := HP.tokF _
    refine CW.ownC T j 1 hb (ocs_get (by omega)) (by omega) ?_
    rw [ocs_set (by omega), tn]
    have ob : ∀ x, x ≠ T → x < 2 * h.next → ((h.add false []).set T (ocs m (j + 1) s' (ovr tk j (2 * h.next)))).blk x = h.blk x := fun x h1 h2 => (HP.set_other _ _ h1).trans (HP.add_other _ _ _ (by rw [tn]; omega))
    refine ownAll hT hev hk d (j + 1) (ovr tk j (2 * h.next)) _ (by omega) (HP.set_same _ _ _) (fun v hv => ?_) (fun a b ha hb e => ?_) (fun v hv => ?_) ((hF.add false []).set _ (.inl (List.mem_singleton.2 rfl)))
    · by_cases e : v = j
      · rw [e, ovr_same]
        refine (HP.set_other _ _ (by omega)).trans ?_
        have := HP.add_same h false []
        rwa [tn] at this
      · rw [ovr_ne _ _ e]
        have := hl v (by omega)
        rw [ob _ (by omega) (by omega)]
        exact hr v (by omega)
    · by_cases e1 : a = j
      · by_cases e2 : b = j
        · omega
        · rw [e1, ovr_same, ovr_ne _ _ e2] at e
          have := hl b (by omega)
          omega
      · by_cases e2 : b = j
        · rw [e2, ovr_same, ovr_ne _ _ e1] at e
          have := hl a (by omega)
          omega
        · rw [ovr_ne _ _ e1, ovr_ne _ _ e2] at e
          exact hi a b (by omega) (by omega) e
    · by_cases e : v = j
      · rw [e, ovr_same]
        exact ⟨by omega, by show _ < 2 * (h.next + 1); omega, by omega⟩
      · rw [ovr_ne _ _ e]
        have := hl v (by omega)
        exact ⟨this.1, by show _ < 2 * (h.next + 1); omega, this.2.2⟩
end
set_option maxHeartbeats 4000000 in
set_option maxRecDepth 100000 in
theorem newGraph_e {m : Nat} (hm : m ≤ 100) (h : HP) :
    SChE Try.prog 73 [pint m] h (fun r h' => r = .ptr (2 * (h.next + 1) + 1) 0 ∧ h'.blk (2 * (h.next + 1) + 1) = some [.ref (2 * h.next) 0 1 m] ∧ h'.blk (2 * h.next) = some (List.replicate m (.lst true 0 0 [])) ∧ h'.next = h.next + 2 ∧ Fr [] h h') := by
  refine SChE.go { mt := [6] } tok mixed Try.func73 rfl rfl Try.ntmps73 rfl rfl (by kernel_rfl) (fun hw => ?_)
  first | simp only [updS] | simp only [updL, Nat.reduceAdd]
  repeat (first | refine S0 ?_ | refine S1 ?_ | refine S2 ?_ | refine S7 ?_ | refine S8 ?_ | refine S19 ?_ | refine S20 ?_ | refine S42 ?_ | refine S69 ?_ | refine S72 ?_)
  have e1 : h.tok false = 2 * h.next := HP.tokF _
  have e2 : (h.add false (List.replicate m (.lst true 0 0 []))).tok true = 2 * (h.next + 1) + 1 := HP.tokT _
  refine ⟨.inr rfl, _, ⟨_, rfl, rfl⟩, ?_, ?_, ?_, rfl, ((Fr.refl _ _).add _ _).add _ _⟩
  · show PV.ptr ((h.add false (List.replicate m (.lst true 0 0 []))).tok true) 0 = _
    rw [e2]
  · have := HP.add_same (h.add false (List.replicate m (.lst true 0 0 []))) true [.ref (2 * h.next) 0 1 m]
    rw [e2] at this
    rw [← e1] at this ⊢
    exact this
  · refine (HP.add_other _ _ _ ?_).trans ?_
    · show _ ≠ (h.add false (List.replicate m (.lst true 0 0 []))).tok true
      rw [e2]; omega
    · have := HP.add_same h false (List.replicate m (.lst true 0 0 []))
      rwa [e1] at this
end Go.Proofs.Ytdlpbpfcgjgppaa
