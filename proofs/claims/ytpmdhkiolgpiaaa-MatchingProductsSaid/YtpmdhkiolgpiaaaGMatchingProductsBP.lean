/- temperleylieb.graph: loops. No condition of its own. -/
import Derived.Test.YtpmdhkiolgpiaaaGMatchingProductsBJ
set_option linter.unusedVariables false
set_option linter.unusedSimpArgs false
namespace Go.Proofs.Ytpmdhkiolgpiaaa
open Go.RowKit

theorem wg_len {n : Nat} {g g' : Lns} {p e : Nat} (h : Wg g p g' e) : Gr n g → p < n → ∀ v, (g' v).length ≤ (g v).length := by
  induction h with
  | stop h => exact fun _ _ v => Nat.le_refl _
  | step e hw ih =>
    intro hg hp v
    obtain ⟨h1, h2, _, _⟩ := hg.cut hp e
    have a := ih h1 h2 v
    have b := cut_len hg hp e v
    omega
theorem GH.ntf {n T tf : Nat} {tk off : Nat → Nat} {g : Lns} {h : HP} (H : GH n T tk off g h) (ho : tf % 2 = 1) : tf ∉ T :: (List.range n).map tk := fun hm => by
  rcases List.mem_cons.1 hm with e | hm
  · have := H.evT; omega
  · obtain ⟨j, hj, rfl⟩ := List.mem_map.1 hm
    have := H.ev j (List.mem_range.1 hj)
    omega
set_option maxHeartbeats 16000000 in
set_option maxRecDepth 100000 in
theorem loops_e {n T tf : Nat} {tk off0 : Nat → Nat} {g0 : Lns} (hn : n ≤ 100) (hg0 : Gr n g0) (hd0 : ∀ v, (g0 v).length ≤ 100) (h : HP) (hv : h.blk tf = some [.ref T 0 1 n]) (H : GH n T tk off0 g0 h) (ho : tf % 2 = 1) (hlt : tf < 2 * h.next) :
    SChE Try.prog 43 [.ptr tf 0] h (fun r h' => ∃ c : Nat, r = pint c ∧ Lp n 0 g0 c ∧ Fr (T :: (List.range n).map tk) h h') := by
  refine SChE.go {} tok mixed Try.func43 rfl rfl Try.ntmps43 rfl rfl (by kernel_rfl) (fun hw => ?_)
  first | simp only [updS] | simp only [updL, Nat.reduceAdd]
  repeat (first | refine S0 ?_ | refine S1 ?_ | refine S2 ?_ | refine S4 ?_ | refine S5 ?_ | refine S6 ?_ | refine S7 ?_ | refine S8 ?_ | refine S10 ?_ | refine S11 ?_ | refine S13 ?_ | refine S15 ?_ | refine S16 ?_ | refine S19 ?_ | refine S20 ?_ | refine S21 ?_ | refine S22 ?_ | refine S24 ?_ | refine S27 ?_ | refine S30 ?_ | refine S45 ?_ | refine S46 ?_ | refine S67 ?_)
  refine CW.loopS (fun i : Lns × Nat × (Nat → Nat) × Nat => i.2.1 ≤ n ∧ Gr n i.1 ∧ (∀ v, (i.1 v).length ≤ 100) ∧ i.2.2.2 ≤ i.2.1 ∧ ∀ c, Lp n i.2.1 i.1 c → Lp n 0 g0 (i.2.2.2 + c)) (fun i => [(0, .ptr tf 0), (9, pint n), (10, pint i.2.1), (3, pint i.2.2.2)])
    (fun i hp => GH n T tk i.2.2.1 i.1 hp ∧ hp.blk tf = some [.ref T 0 1 n] ∧ Fr (T :: (List.range n).map tk) h hp) (fun i => n - i.2.1) (g0, 0, off0, 0) ⟨⟨Nat.zero_le _, hg0, hd0, Nat.le_refl _, fun c h => by simpa using h⟩, SLx, H, hv, Fr.refl _ _⟩ ?_
  clear H hv
  rintro ⟨g, p, off, k⟩ t hp ⟨hpn, hg, hd, hk, hW⟩ ⟨H, hv, hF⟩
  simp only at hpn hg hd hk hW H
  first | simp only [updS] | simp only [updL, Nat.reduceAdd]
  have b0 := H.out
  have evT := H.evT
  have lT := H.ltT
  have hl := gcs_len n tk off g
  have hnx := hF.next
  by_cases hpl : p < n
  · have hdp := hd p
    by_cases e : g p = []
    · have hln : (g p).length = 0 := by rw [e]; rfl
      repeat (first | refine S0 ?_ | refine S1 ?_ | refine S2 ?_ | refine S4 ?_ | refine S5 ?_ | refine S6 ?_ | refine S7 ?_ | refine S8 ?_ | refine S10 ?_ | refine S11 ?_ | refine S13 ?_ | refine S15 ?_ | refine S16 ?_ | refine S19 ?_ | refine S20 ?_ | refine S21 ?_ | refine S22 ?_ | refine S24 ?_ | refine S27 ?_ | refine S30 ?_ | refine S45 ?_ | refine S46 ?_ | refine S67 ?_)
      rw [show 0 + (p : Int).toNat * 1 = p by simp]
      refine AW.ldm EVx (by first | exact Or.inl rfl | exact Or.inr ⟨rfl, HP.tok_even _⟩ | exact Or.inr (Or.inl ⟨rfl, HP.tok_even _⟩) | exact Or.inr (Or.inr ⟨rfl, HP.tok_odd _⟩) | exact Or.inr (Or.inl rfl) | exact Or.inr (Or.inr (Or.inl rfl)) | exact Or.inr (Or.inr (Or.inr (Or.inl ⟨rfl, HP.tok_odd _⟩))) | exact Or.inr (Or.inr (Or.inr (Or.inr ⟨rfl, HP.tok_even _⟩))) | exact Or.inr (Or.inr (Or.inr (Or.inr ⟨rfl, by assumption⟩))) | exact Or.inr ⟨rfl, by assumption⟩ | exact Or.inr (Or.inl ⟨rfl, by assumption⟩) | exact Or.inr (Or.inr ⟨rfl, by assumption⟩) | exact Or.inr (Or.inr (Or.inr (Or.inl ⟨rfl, by assumption⟩))) | exact Or.inr (Or.inr (Or.inl ⟨rfl, HP.tok_odd _⟩)) | exact Or.inr (Or.inr (Or.inl ⟨rfl, by assumption⟩)) | exact Or.inr (Or.inr (Or.inr rfl)) | exact Or.inr (Or.inr rfl) | exact Or.inr rfl) rfl b0 (gcs_get hpl) ?_
      repeat (first | refine S0 ?_ | refine S1 ?_ | refine S2 ?_ | refine S4 ?_ | refine S5 ?_ | refine S6 ?_ | refine S7 ?_ | refine S8 ?_ | refine S10 ?_ | refine S11 ?_ | refine S13 ?_ | refine S15 ?_ | refine S16 ?_ | refine S19 ?_ | refine S20 ?_ | refine S21 ?_ | refine S22 ?_ | refine S24 ?_ | refine S27 ?_ | refine S30 ?_ | refine S45 ?_ | refine S46 ?_ | refine S67 ?_)
      exact ⟨(g, p + 1, off, k), ⟨by simp only; omega, hg, hd, by simp only; omega, fun c hc => hW c (.skip hpl e hc)⟩, SLx, ⟨H, hv, hF⟩, by simp only; omega⟩
    · have hln : 0 < (g p).length := List.length_pos_iff.2 e
      have kw := walk_e hn hg hd hpl hp hv H ho (by omega)
      repeat (first | refine S0 ?_ | refine S1 ?_ | refine S2 ?_ | refine S4 ?_ | refine S5 ?_ | refine S6 ?_ | refine S7 ?_ | refine S8 ?_ | refine S10 ?_ | refine S11 ?_ | refine S13 ?_ | refine S15 ?_ | refine S16 ?_ | refine S19 ?_ | refine S20 ?_ | refine S21 ?_ | refine S22 ?_ | refine S24 ?_ | refine S27 ?_ | refine S30 ?_ | refine S45 ?_ | refine S46 ?_ | refine S67 ?_)
      rw [show 0 + (p : Int).toNat * 1 = p by simp]
      refine AW.ldm EVx (by first | exact Or.inl rfl | exact Or.inr ⟨rfl, HP.tok_even _⟩ | exact Or.inr (Or.inl ⟨rfl, HP.tok_even _⟩) | exact Or.inr (Or.inr ⟨rfl, HP.tok_odd _⟩) | exact Or.inr (Or.inl rfl) | exact Or.inr (Or.inr (Or.inl rfl)) | exact Or.inr (Or.inr (Or.inr (Or.inl ⟨rfl, HP.tok_odd _⟩))) | exact Or.inr (Or.inr (Or.inr (Or.inr ⟨rfl, HP.tok_even _⟩))) | exact Or.inr (Or.inr (Or.inr (Or.inr ⟨rfl, by assumption⟩))) | exact Or.inr ⟨rfl, by assumption⟩ | exact Or.inr (Or.inl ⟨rfl, by assumption⟩) | exact Or.inr (Or.inr ⟨rfl, by assumption⟩) | exact Or.inr (Or.inr (Or.inr (Or.inl ⟨rfl, by assumption⟩))) | exact Or.inr (Or.inr (Or.inl ⟨rfl, HP.tok_odd _⟩)) | exact Or.inr (Or.inr (Or.inl ⟨rfl, by assumption⟩)) | exact Or.inr (Or.inr (Or.inr rfl)) | exact Or.inr (Or.inr rfl) | exact Or.inr rfl) rfl b0 (gcs_get hpl) ?_
      repeat (first | refine S0 ?_ | refine S1 ?_ | refine S2 ?_ | refine S4 ?_ | refine S5 ?_ | refine S6 ?_ | refine S7 ?_ | refine S8 ?_ | refine S10 ?_ | refine S11 ?_ | refine S13 ?_ | refine S15 ?_ | refine S16 ?_ | refine S19 ?_ | refine S20 ?_ | refine S21 ?_ | refine S22 ?_ | refine S24 ?_ | refine S27 ?_ | refine S30 ?_ | refine S45 ?_ | refine S46 ?_ | refine S67 ?_)
      refine Scalle (args := [.ptr tf 0, pint p]) kw ?_
      rintro r h' ⟨g', e', off', rfl, hw', hg', he', H', F'⟩
      have hv' : h'.blk tf = some [.ref T 0 1 n] := F'.get (by omega) (H.ntf ho) hv
      have hF' := hF.trans F' (fun t ht => .inl ht)
      repeat (first | refine S0 ?_ | refine S1 ?_ | refine S2 ?_ | refine S4 ?_ | refine S5 ?_ | refine S6 ?_ | refine S7 ?_ | refine S8 ?_ | refine S10 ?_ | refine S11 ?_ | refine S13 ?_ | refine S15 ?_ | refine S16 ?_ | refine S19 ?_ | refine S20 ?_ | refine S21 ?_ | refine S22 ?_ | refine S24 ?_ | refine S27 ?_ | refine S30 ?_ | refine S45 ?_ | refine S46 ?_ | refine S67 ?_)
      exact ⟨(g', p + 1, off', k + 1), ⟨by simp only; omega, hg', fun v => Nat.le_trans (wg_len hw' hg hpl v) (hd v), by simp only; omega, fun c hc => by have := hW _ (.take hpl e hw' hc); rw [show k + (c + 1) = k + 1 + c by omega] at this; exact this⟩, SLx, ⟨H', hv', hF'⟩, by simp only; omega⟩
  · obtain rfl : p = n := by omega
    repeat (first | refine S0 ?_ | refine S1 ?_ | refine S2 ?_ | refine S4 ?_ | refine S5 ?_ | refine S6 ?_ | refine S7 ?_ | refine S8 ?_ | refine S10 ?_ | refine S11 ?_ | refine S13 ?_ | refine S15 ?_ | refine S16 ?_ | refine S19 ?_ | refine S20 ?_ | refine S21 ?_ | refine S22 ?_ | refine S24 ?_ | refine S27 ?_ | refine S30 ?_ | refine S45 ?_ | refine S46 ?_ | refine S67 ?_)
    exact ⟨.inr rfl, _, ⟨_, rfl, rfl⟩, k, rfl, by have := hW 0 .done; rwa [Nat.add_zero] at this, hF⟩
end Go.Proofs.Ytpmdhkiolgpiaaa
