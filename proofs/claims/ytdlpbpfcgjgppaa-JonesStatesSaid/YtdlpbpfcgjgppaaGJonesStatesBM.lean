/- Facts and contracts that the claim uses. No condition of its own. -/
import Derived.Test.YtdlpbpfcgjgppaaGJonesStatesBL
import Derived.Test.YtdlpbpfcgjgppaaGJonesStatesBG
set_option linter.unusedVariables false
set_option linter.unusedSimpArgs false
namespace Go.Proofs.Ytdlpbpfcgjgppaa
open Go.RowKit
theorem bwG {n T v : Nat} {tk off : Nat → Nat} {g : Lns} {h : HP} (H : GH n T tk off g h) (hv : v < n) : bw h (.ref (tk v) (off v) 1 (g v).length) = pli (nI (g v)) := by
  obtain ⟨pre, p1, p2⟩ := H.row v hv
  have e : (g v).length = (nI (g v)).length := (nI_len _).symm
  rw [bw_ref p2 (by rw [List.length_append, ints_length, nI_len]; omega) (rowcut p1), e]
  rfl
theorem nI_erase (l : List Nat) (p : Nat) (h : p ∈ l) : ∃ i, i < l.length ∧ (∀ k, k < i → (nI l).getD k 0 ≠ (p : Int)) ∧ (nI l).getD i 0 = (p : Int) ∧ (nI l).take i ++ (nI l).drop (i + 1) = nI (l.erase p) := by
  induction l with
  | nil => cases h
  | cons x l ih =>
    by_cases c : x = p
    · subst c
      exact ⟨0, by simp, fun k hk => absurd hk (Nat.not_lt_zero _), rfl, by rw [List.erase_cons_head]; rfl⟩
    · have hm : p ∈ l := (List.mem_cons.1 h).resolve_left (fun e => c e.symm)
      obtain ⟨i, h1, h2, h3, h4⟩ := ih hm
      refine ⟨i + 1, by simp [h1], fun k hk => ?_, h3, ?_⟩
      · cases k with
        | zero => show (x : Int) ≠ (p : Int); omega
        | succ k => exact h2 k (by omega)
      · rw [List.erase_cons_tail (by simpa using c)]
        show (x : Int) :: ((nI l).take i ++ (nI l).drop (i + 1)) = (x : Int) :: nI (l.erase p)
        rw [h4]
theorem cut_ovr {g : Lns} {p q : Nat} (h : q ≠ p) : ovr (ovr g p (g p).tail) q ((g q).erase p) = cutG g p q := funext fun v => by
  by_cases c1 : v = q
  · subst c1; rw [ovr_same, cut_q g h]
  · rw [ovr_ne _ _ c1]
    by_cases c2 : v = p
    · subst c2; rw [ovr_same, cut_p]
    · rw [ovr_ne _ _ c2, cut_o g c2 c1]
set_option maxHeartbeats 16000000 in
set_option maxRecDepth 100000 in
theorem walk_e {n T tf p0 : Nat} {tk off0 : Nat → Nat} {g0 : Lns} (hn : n ≤ 100) (hg0 : Gr n g0) (hd0 : ∀ v, (g0 v).length ≤ 100) (hp0 : p0 < n) (h : HP) (hv : h.blk tf = some [.ref T 0 1 n]) (H : GH n T tk off0 g0 h) (ho : tf % 2 = 1) (hlt : tf < 2 * h.next) :
    SChE Try.prog 76 [.ptr tf 0, pint p0] h (fun r h' => ∃ g' e off', r = pint (e : Nat) ∧ Wg g0 p0 g' e ∧ Gr n g' ∧ e < n ∧ GH n T tk off' g' h' ∧ Fr (T :: (List.range n).map tk) h h') := by
  refine SChE.go { rb := [51], wc := [63] } tok mixed Try.func76 rfl rfl Try.ntmps76 rfl rfl (by kernel_rfl) (fun hw => ?_)
  first | simp only [updS] | simp only [updL, Nat.reduceAdd]
  repeat (first | refine S0 ?_ | refine S1 ?_ | refine S2 ?_ | refine S3 ?_ | refine S4 ?_ | refine S5 ?_ | refine S6 ?_ | refine S7 ?_ | refine S8 ?_ | refine S10 ?_ | refine S11 ?_ | refine S13 ?_ | refine S15 ?_ | refine S16 ?_ | refine S19 ?_ | refine S20 ?_ | refine S22 ?_ | refine S24 ?_ | refine S27 ?_ | refine S30 ?_ | refine S45 ?_ | refine S46 ?_ | refine S67 ?_)
  refine CW.loopS (fun i : Lns × Nat × (Nat → Nat) => i.2.1 < n ∧ Gr n i.1 ∧ (∀ v, (i.1 v).length ≤ 100) ∧ ∀ g' e, Wg i.1 i.2.1 g' e → Wg g0 p0 g' e) (fun i => [(0, .ptr tf 0), (1, pint i.2.1)])
    (fun i hp => GH n T tk i.2.2 i.1 hp ∧ hp.blk tf = some [.ref T 0 1 n] ∧ Fr (T :: (List.range n).map tk) h hp) (fun i => tdeg i.1 n) (g0, p0, off0) ⟨⟨hp0, hg0, hd0, fun _ _ h => h⟩, SLx, H, hv, Fr.refl _ _⟩ ?_
  clear H hv
  rintro ⟨g, p, off⟩ t hp ⟨hpn, hg, hd, hW⟩ ⟨H, hv, hF⟩
  simp only at hpn hg hd hW H
  first | simp only [updS] | simp only [updL, Nat.reduceAdd]
  have b0 := H.out
  have evT := H.evT
  have lT := H.ltT
  have hl := gcs_len n tk off g
  obtain ⟨pre, p1, p2⟩ := H.row p hpn
  have hev := H.ev p hpn
  repeat (first | refine S0 ?_ | refine S1 ?_ | refine S2 ?_ | refine S3 ?_ | refine S4 ?_ | refine S5 ?_ | refine S6 ?_ | refine S7 ?_ | refine S8 ?_ | refine S10 ?_ | refine S11 ?_ | refine S13 ?_ | refine S15 ?_ | refine S16 ?_ | refine S19 ?_ | refine S20 ?_ | refine S22 ?_ | refine S24 ?_ | refine S27 ?_ | refine S30 ?_ | refine S45 ?_ | refine S46 ?_ | refine S67 ?_)
  rw [show 0 + (p : Int).toNat * 1 = p by simp]
  refine AW.ldm EVx (by first | exact Or.inl rfl | exact Or.inr ⟨rfl, HP.tok_even _⟩ | exact Or.inr (Or.inl ⟨rfl, HP.tok_even _⟩) | exact Or.inr (Or.inr ⟨rfl, HP.tok_odd _⟩) | exact Or.inr (Or.inl rfl) | exact Or.inr (Or.inr (Or.inl rfl)) | exact Or.inr (Or.inr (Or.inr (Or.inl ⟨rfl, HP.tok_odd _⟩))) | exact Or.inr (Or.inr (Or.inr (Or.inr ⟨rfl, HP.tok_even _⟩))) | exact Or.inr (Or.inr (Or.inr (Or.inr ⟨rfl, by assumption⟩))) | exact Or.inr ⟨rfl, by assumption⟩ | exact Or.inr (Or.inl ⟨rfl, by assumption⟩) | exact Or.inr (Or.inr ⟨rfl, by assumption⟩) | exact Or.inr (Or.inr (Or.inr (Or.inl ⟨rfl, by assumption⟩))) | exact Or.inr (Or.inr (Or.inl ⟨rfl, HP.tok_odd _⟩)) | exact Or.inr (Or.inr (Or.inl ⟨rfl, by assumption⟩)) | exact Or.inr (Or.inr (Or.inr rfl)) | exact Or.inr (Or.inr rfl) | exact Or.inr rfl) rfl b0 (gcs_get hpn) ?_
  cases e : g p with
  | nil =>
    repeat (first | refine S0 ?_ | refine S1 ?_ | refine S2 ?_ | refine S3 ?_ | refine S4 ?_ | refine S5 ?_ | refine S6 ?_ | refine S7 ?_ | refine S8 ?_ | refine S10 ?_ | refine S11 ?_ | refine S13 ?_ | refine S15 ?_ | refine S16 ?_ | refine S19 ?_ | refine S20 ?_ | refine S22 ?_ | refine S24 ?_ | refine S27 ?_ | refine S30 ?_ | refine S45 ?_ | refine S46 ?_ | refine S67 ?_)
    exact ⟨.inr rfl, _, ⟨_, rfl, rfl⟩, g, p, off, rfl, hW g p (.stop e), hg, hpn, H, hF⟩
  | cons q r =>
    obtain ⟨hg1, hq, hne, hmem⟩ := hg.cut hpn e
    have hln : 0 < (q :: r).length := Nat.succ_pos _
    have hlp : (q :: r).length ≤ 100 := e ▸ hd p
    repeat (first | refine S0 ?_ | refine S1 ?_ | refine S2 ?_ | refine S3 ?_ | refine S4 ?_ | refine S5 ?_ | refine S6 ?_ | refine S7 ?_ | refine S8 ?_ | refine S10 ?_ | refine S11 ?_ | refine S13 ?_ | refine S15 ?_ | refine S16 ?_ | refine S19 ?_ | refine S20 ?_ | refine S22 ?_ | refine S24 ?_ | refine S27 ?_ | refine S30 ?_ | refine S45 ?_ | refine S46 ?_ | refine S67 ?_)
    rw [e] at p2
    have hcell : (pre ++ ints (nI (q :: r)))[off p]? = some (.sc (.int .i64 (q : Int))) := by rw [← p1, List.getElem?_append_right (Nat.le_refl _), Nat.sub_self]; rfl
    rw [show 0 + (p : Int).toNat * 1 = p by simp]
    refine AW.ldm EVx (by first | exact Or.inl rfl | exact Or.inr ⟨rfl, HP.tok_even _⟩ | exact Or.inr (Or.inl ⟨rfl, HP.tok_even _⟩) | exact Or.inr (Or.inr ⟨rfl, HP.tok_odd _⟩) | exact Or.inr (Or.inl rfl) | exact Or.inr (Or.inr (Or.inl rfl)) | exact Or.inr (Or.inr (Or.inr (Or.inl ⟨rfl, HP.tok_odd _⟩))) | exact Or.inr (Or.inr (Or.inr (Or.inr ⟨rfl, HP.tok_even _⟩))) | exact Or.inr (Or.inr (Or.inr (Or.inr ⟨rfl, by assumption⟩))) | exact Or.inr ⟨rfl, by assumption⟩ | exact Or.inr (Or.inl ⟨rfl, by assumption⟩) | exact Or.inr (Or.inr ⟨rfl, by assumption⟩) | exact Or.inr (Or.inr (Or.inr (Or.inl ⟨rfl, by assumption⟩))) | exact Or.inr (Or.inr (Or.inl ⟨rfl, HP.tok_odd _⟩)) | exact Or.inr (Or.inr (Or.inl ⟨rfl, by assumption⟩)) | exact Or.inr (Or.inr (Or.inr rfl)) | exact Or.inr (Or.inr rfl) | exact Or.inr rfl) rfl b0 (gcs_get hpn) ?_
    rw [e]
    iterate 1 (first | refine S0 ?_ | refine S1 ?_ | refine S2 ?_ | refine S3 ?_ | refine S4 ?_ | refine S5 ?_ | refine S6 ?_ | refine S7 ?_ | refine S8 ?_ | refine S10 ?_ | refine S11 ?_ | refine S13 ?_ | refine S15 ?_ | refine S16 ?_ | refine S19 ?_ | refine S20 ?_ | refine S22 ?_ | refine S24 ?_ | refine S27 ?_ | refine S30 ?_ | refine S45 ?_ | refine S46 ?_ | refine S67 ?_)
    refine AW.ldm EVx (by first | exact Or.inl rfl | exact Or.inr ⟨rfl, HP.tok_even _⟩ | exact Or.inr (Or.inl ⟨rfl, HP.tok_even _⟩) | exact Or.inr (Or.inr ⟨rfl, HP.tok_odd _⟩) | exact Or.inr (Or.inl rfl) | exact Or.inr (Or.inr (Or.inl rfl)) | exact Or.inr (Or.inr (Or.inr (Or.inl ⟨rfl, HP.tok_odd _⟩))) | exact Or.inr (Or.inr (Or.inr (Or.inr ⟨rfl, HP.tok_even _⟩))) | exact Or.inr (Or.inr (Or.inr (Or.inr ⟨rfl, by assumption⟩))) | exact Or.inr ⟨rfl, by assumption⟩ | exact Or.inr (Or.inl ⟨rfl, by assumption⟩) | exact Or.inr (Or.inr ⟨rfl, by assumption⟩) | exact Or.inr (Or.inr (Or.inr (Or.inl ⟨rfl, by assumption⟩))) | exact Or.inr (Or.inr (Or.inl ⟨rfl, HP.tok_odd _⟩)) | exact Or.inr (Or.inr (Or.inl ⟨rfl, by assumption⟩)) | exact Or.inr (Or.inr (Or.inr rfl)) | exact Or.inr (Or.inr rfl) | exact Or.inr rfl) rfl p2 hcell ?_
    repeat (first | refine S0 ?_ | refine S1 ?_ | refine S2 ?_ | refine S3 ?_ | refine S4 ?_ | refine S5 ?_ | refine S6 ?_ | refine S7 ?_ | refine S8 ?_ | refine S10 ?_ | refine S11 ?_ | refine S13 ?_ | refine S15 ?_ | refine S16 ?_ | refine S19 ?_ | refine S20 ?_ | refine S22 ?_ | refine S24 ?_ | refine S27 ?_ | refine S30 ?_ | refine S45 ?_ | refine S46 ?_ | refine S67 ?_)
    rw [show 0 + (p : Int).toNat * 1 = p by simp]
    refine AW.ldm EVx (by first | exact Or.inl rfl | exact Or.inr ⟨rfl, HP.tok_even _⟩ | exact Or.inr (Or.inl ⟨rfl, HP.tok_even _⟩) | exact Or.inr (Or.inr ⟨rfl, HP.tok_odd _⟩) | exact Or.inr (Or.inl rfl) | exact Or.inr (Or.inr (Or.inl rfl)) | exact Or.inr (Or.inr (Or.inr (Or.inl ⟨rfl, HP.tok_odd _⟩))) | exact Or.inr (Or.inr (Or.inr (Or.inr ⟨rfl, HP.tok_even _⟩))) | exact Or.inr (Or.inr (Or.inr (Or.inr ⟨rfl, by assumption⟩))) | exact Or.inr ⟨rfl, by assumption⟩ | exact Or.inr (Or.inl ⟨rfl, by assumption⟩) | exact Or.inr (Or.inr ⟨rfl, by assumption⟩) | exact Or.inr (Or.inr (Or.inr (Or.inl ⟨rfl, by assumption⟩))) | exact Or.inr (Or.inr (Or.inl ⟨rfl, HP.tok_odd _⟩)) | exact Or.inr (Or.inr (Or.inl ⟨rfl, by assumption⟩)) | exact Or.inr (Or.inr (Or.inr rfl)) | exact Or.inr (Or.inr rfl) | exact Or.inr rfl) rfl b0 (gcs_get hpn) ?_
    rw [e]
    have htl : (q :: r).length - 1 = r.length := by simp
    refine AW.slrFr (q := 1) EVx rfl EVx rfl hln ?_
    rw [htl]
    iterate 1 (first | refine S0 ?_ | refine S1 ?_ | refine S2 ?_ | refine S3 ?_ | refine S4 ?_ | refine S5 ?_ | refine S6 ?_ | refine S7 ?_ | refine S8 ?_ | refine S10 ?_ | refine S11 ?_ | refine S13 ?_ | refine S15 ?_ | refine S16 ?_ | refine S19 ?_ | refine S20 ?_ | refine S22 ?_ | refine S24 ?_ | refine S27 ?_ | refine S30 ?_ | refine S45 ?_ | refine S46 ?_ | refine S67 ?_)
    rw [show 0 + (p : Int).toNat * 1 = p by simp]
    refine AW.stR (r := (gcs n tk off g).set p (.ref (tk p) (off p + 1) 1 r.length)) EVx (by first | exact Or.inl rfl | exact Or.inr ⟨rfl, HP.tok_even _⟩ | exact Or.inr (Or.inl ⟨rfl, HP.tok_even _⟩) | exact Or.inr (Or.inr ⟨rfl, HP.tok_odd _⟩) | exact Or.inr (Or.inl rfl) | exact Or.inr (Or.inr (Or.inl rfl)) | exact Or.inr (Or.inr (Or.inr (Or.inl ⟨rfl, HP.tok_odd _⟩))) | exact Or.inr (Or.inr (Or.inr (Or.inr ⟨rfl, HP.tok_even _⟩))) | exact Or.inr (Or.inr (Or.inr (Or.inr ⟨rfl, by assumption⟩))) | exact Or.inr ⟨rfl, by assumption⟩ | exact Or.inr (Or.inl ⟨rfl, by assumption⟩) | exact Or.inr (Or.inr ⟨rfl, by assumption⟩) | exact Or.inr (Or.inr (Or.inr (Or.inl ⟨rfl, by assumption⟩))) | exact Or.inr (Or.inr (Or.inl ⟨rfl, HP.tok_odd _⟩)) | exact Or.inr (Or.inr (Or.inl ⟨rfl, by assumption⟩)) | exact Or.inr (Or.inr (Or.inr rfl)) | exact Or.inr (Or.inr rfl) | exact Or.inr rfl) EVx rfl b0 (by rw [hl]; exact hpn) (by first | rfl | (simp only [PV.one, pint, pfr]; done)) rfl ?_
    have hmT : T ∈ (T :: (List.range n).map tk) := List.mem_cons_self ..
    have hmR : ∀ j, j < n → tk j ∈ (T :: (List.range n).map tk) := fun j hj => List.mem_cons_of_mem _ (List.mem_map.2 ⟨j, List.mem_range.2 hj, rfl⟩)
    have H1 : GH n T tk (ovr off p (off p + 1)) (ovr g p r) (hp.set T ((gcs n tk off g).set p (.ref (tk p) (off p + 1) 1 r.length))) := H.turn hpn rfl (HP.set_same _ _ _) (fun j hj _ => HP.set_other _ _ (H.ne j hj)) ⟨pre ++ [.sc (.int .i64 (q : Int))], by simp [p1], (HP.set_other _ _ (H.ne p hpn)).trans (p2.trans (by rw [List.append_assoc]; rfl))⟩
    have hF1 := hF.set ((gcs n tk off g).set p (.ref (tk p) (off p + 1) 1 r.length)) (.inl hmT)
    have hv1 : (hp.set T ((gcs n tk off g).set p (.ref (tk p) (off p + 1) 1 r.length))).blk tf = some [.ref T 0 1 n] := (HP.set_other _ _ (by omega)).trans hv
    generalize hp.set T ((gcs n tk off g).set p (.ref (tk p) (off p + 1) 1 r.length)) = X at *
    clear b0 p1 p2 hev hl
    have hgq : ovr g p r q = g q := ovr_ne _ _ hne
    have b0 := H1.out
    have hl := gcs_len n tk (ovr off p (off p + 1)) (ovr g p r)
    have hev := H1.ev q hq
    obtain ⟨pre, p1, p2⟩ := H1.row q hq
    have hbw := bwG H1 hq
    rw [hgq] at p2 hbw
    repeat (first | refine S0 ?_ | refine S1 ?_ | refine S2 ?_ | refine S3 ?_ | refine S4 ?_ | refine S5 ?_ | refine S6 ?_ | refine S7 ?_ | refine S8 ?_ | refine S10 ?_ | refine S11 ?_ | refine S13 ?_ | refine S15 ?_ | refine S16 ?_ | refine S19 ?_ | refine S20 ?_ | refine S22 ?_ | refine S24 ?_ | refine S27 ?_ | refine S30 ?_ | refine S45 ?_ | refine S46 ?_ | refine S67 ?_)
    rw [show 0 + (q : Int).toNat * 1 = q by simp]
    refine AW.ldm EVx (by first | exact Or.inl rfl | exact Or.inr ⟨rfl, HP.tok_even _⟩ | exact Or.inr (Or.inl ⟨rfl, HP.tok_even _⟩) | exact Or.inr (Or.inr ⟨rfl, HP.tok_odd _⟩) | exact Or.inr (Or.inl rfl) | exact Or.inr (Or.inr (Or.inl rfl)) | exact Or.inr (Or.inr (Or.inr (Or.inl ⟨rfl, HP.tok_odd _⟩))) | exact Or.inr (Or.inr (Or.inr (Or.inr ⟨rfl, HP.tok_even _⟩))) | exact Or.inr (Or.inr (Or.inr (Or.inr ⟨rfl, by assumption⟩))) | exact Or.inr ⟨rfl, by assumption⟩ | exact Or.inr (Or.inl ⟨rfl, by assumption⟩) | exact Or.inr (Or.inr ⟨rfl, by assumption⟩) | exact Or.inr (Or.inr (Or.inr (Or.inl ⟨rfl, by assumption⟩))) | exact Or.inr (Or.inr (Or.inl ⟨rfl, HP.tok_odd _⟩)) | exact Or.inr (Or.inr (Or.inl ⟨rfl, by assumption⟩)) | exact Or.inr (Or.inr (Or.inr rfl)) | exact Or.inr (Or.inr rfl) | exact Or.inr rfl) rfl b0 (gcs_get hq) ?_
    rw [hgq]
    iterate 1 (first | refine S0 ?_ | refine S1 ?_ | refine S2 ?_ | refine S3 ?_ | refine S4 ?_ | refine S5 ?_ | refine S6 ?_ | refine S7 ?_ | refine S8 ?_ | refine S10 ?_ | refine S11 ?_ | refine S13 ?_ | refine S15 ?_ | refine S16 ?_ | refine S19 ?_ | refine S20 ?_ | refine S22 ?_ | refine S24 ?_ | refine S27 ?_ | refine S30 ?_ | refine S45 ?_ | refine S46 ?_ | refine S67 ?_)
    obtain ⟨ix, i1, i2, i3, i4⟩ := nI_erase (g q) p hmem
    have hlq := hd q
    have kx := index_some (xs := nI (g q)) (x := (p : Int)) (by rw [nI_len]; omega) (by rw [nI_len]; exact i1) i2 i3
    refine Scallb (args := [pli (nI (g q)), pint p]) kx ?_ (ha := by simp only [evA, upd, Nat.reduceEqDiff, ↓reduceIte, List.map_cons, List.map_nil]; rw [hbw]; rfl)
    repeat (first | refine S0 ?_ | refine S1 ?_ | refine S2 ?_ | refine S3 ?_ | refine S4 ?_ | refine S5 ?_ | refine S6 ?_ | refine S7 ?_ | refine S8 ?_ | refine S10 ?_ | refine S11 ?_ | refine S13 ?_ | refine S15 ?_ | refine S16 ?_ | refine S19 ?_ | refine S20 ?_ | refine S22 ?_ | refine S24 ?_ | refine S27 ?_ | refine S30 ?_ | refine S45 ?_ | refine S46 ?_ | refine S67 ?_)
    rw [show 0 + (q : Int).toNat * 1 = q by simp]
    refine AW.ldm EVx (by first | exact Or.inl rfl | exact Or.inr ⟨rfl, HP.tok_even _⟩ | exact Or.inr (Or.inl ⟨rfl, HP.tok_even _⟩) | exact Or.inr (Or.inr ⟨rfl, HP.tok_odd _⟩) | exact Or.inr (Or.inl rfl) | exact Or.inr (Or.inr (Or.inl rfl)) | exact Or.inr (Or.inr (Or.inr (Or.inl ⟨rfl, HP.tok_odd _⟩))) | exact Or.inr (Or.inr (Or.inr (Or.inr ⟨rfl, HP.tok_even _⟩))) | exact Or.inr (Or.inr (Or.inr (Or.inr ⟨rfl, by assumption⟩))) | exact Or.inr ⟨rfl, by assumption⟩ | exact Or.inr (Or.inl ⟨rfl, by assumption⟩) | exact Or.inr (Or.inr ⟨rfl, by assumption⟩) | exact Or.inr (Or.inr (Or.inr (Or.inl ⟨rfl, by assumption⟩))) | exact Or.inr (Or.inr (Or.inl ⟨rfl, HP.tok_odd _⟩)) | exact Or.inr (Or.inr (Or.inl ⟨rfl, by assumption⟩)) | exact Or.inr (Or.inr (Or.inr rfl)) | exact Or.inr (Or.inr rfl) | exact Or.inr rfl) rfl b0 (gcs_get hq) ?_
    rw [hgq]
    iterate 3 (first | refine S0 ?_ | refine S1 ?_ | refine S2 ?_ | refine S3 ?_ | refine S4 ?_ | refine S5 ?_ | refine S6 ?_ | refine S7 ?_ | refine S8 ?_ | refine S10 ?_ | refine S11 ?_ | refine S13 ?_ | refine S15 ?_ | refine S16 ?_ | refine S19 ?_ | refine S20 ?_ | refine S22 ?_ | refine S24 ?_ | refine S27 ?_ | refine S30 ?_ | refine S45 ?_ | refine S46 ?_ | refine S67 ?_)
    have kd := delete_m (zs := nI (g q)) (i := ix) (j := ix + 1) (by omega) (by rw [nI_len]; omega)
    rw [i4, show ((ix + 1 : Nat) : Int) = (ix : Int) + 1 by omega] at kd
    have hzc := rowcut (l := g q) p1
    rw [Nat.mul_one, ← nI_len] at hzc
    rw [show (g q).length = (nI (g q)).length from (nI_len _).symm]
    refine AW.callmO (x := .tmp 59) (rs := [.tmp 60, .tmp 62]) (tk := tk q) (off := ovr off p (off p + 1) q) (zs := nI (g q)) (us := [.int .i64 (ix : Int), .int .i64 ((ix : Int) + 1)]) EVx (by first | exact Or.inl rfl | exact Or.inr ⟨rfl, HP.tok_even _⟩ | exact Or.inr (Or.inl ⟨rfl, HP.tok_even _⟩) | exact Or.inr (Or.inr ⟨rfl, HP.tok_odd _⟩) | exact Or.inr (Or.inl rfl) | exact Or.inr (Or.inr (Or.inl rfl)) | exact Or.inr (Or.inr (Or.inr (Or.inl ⟨rfl, HP.tok_odd _⟩))) | exact Or.inr (Or.inr (Or.inr (Or.inr ⟨rfl, HP.tok_even _⟩))) | exact Or.inr (Or.inr (Or.inr (Or.inr ⟨rfl, by assumption⟩))) | exact Or.inr ⟨rfl, by assumption⟩ | exact Or.inr (Or.inl ⟨rfl, by assumption⟩) | exact Or.inr (Or.inr ⟨rfl, by assumption⟩) | exact Or.inr (Or.inr (Or.inr (Or.inl ⟨rfl, by assumption⟩))) | exact Or.inr (Or.inr (Or.inl ⟨rfl, HP.tok_odd _⟩)) | exact Or.inr (Or.inr (Or.inl ⟨rfl, by assumption⟩)) | exact Or.inr (Or.inr (Or.inr rfl)) | exact Or.inr (Or.inr rfl) | exact Or.inr rfl) p2 hzc (by rw [nI_len]; omega) (by simp only [evA, upd, Nat.reduceEqDiff, ↓reduceIte, List.map_cons, List.map_nil]; rfl) kd ?_
    rw [nI_len ((g q).erase p)]
    iterate 1 (first | refine S0 ?_ | refine S1 ?_ | refine S2 ?_ | refine S3 ?_ | refine S4 ?_ | refine S5 ?_ | refine S6 ?_ | refine S7 ?_ | refine S8 ?_ | refine S10 ?_ | refine S11 ?_ | refine S13 ?_ | refine S15 ?_ | refine S16 ?_ | refine S19 ?_ | refine S20 ?_ | refine S22 ?_ | refine S24 ?_ | refine S27 ?_ | refine S30 ?_ | refine S45 ?_ | refine S46 ?_ | refine S67 ?_)
    rw [show 0 + (q : Int).toNat * 1 = q by simp]
    have hTq : T ≠ tk q := fun e => H1.ne q hq e.symm
    refine AW.stR (r := (gcs n tk (ovr off p (off p + 1)) (ovr g p r)).set q (.ref (tk q) (ovr off p (off p + 1) q) 1 ((g q).erase p).length)) EVx (by first | exact Or.inl rfl | exact Or.inr ⟨rfl, HP.tok_even _⟩ | exact Or.inr (Or.inl ⟨rfl, HP.tok_even _⟩) | exact Or.inr (Or.inr ⟨rfl, HP.tok_odd _⟩) | exact Or.inr (Or.inl rfl) | exact Or.inr (Or.inr (Or.inl rfl)) | exact Or.inr (Or.inr (Or.inr (Or.inl ⟨rfl, HP.tok_odd _⟩))) | exact Or.inr (Or.inr (Or.inr (Or.inr ⟨rfl, HP.tok_even _⟩))) | exact Or.inr (Or.inr (Or.inr (Or.inr ⟨rfl, by assumption⟩))) | exact Or.inr ⟨rfl, by assumption⟩ | exact Or.inr (Or.inl ⟨rfl, by assumption⟩) | exact Or.inr (Or.inr ⟨rfl, by assumption⟩) | exact Or.inr (Or.inr (Or.inr (Or.inl ⟨rfl, by assumption⟩))) | exact Or.inr (Or.inr (Or.inl ⟨rfl, HP.tok_odd _⟩)) | exact Or.inr (Or.inr (Or.inl ⟨rfl, by assumption⟩)) | exact Or.inr (Or.inr (Or.inr rfl)) | exact Or.inr (Or.inr rfl) | exact Or.inr rfl) EVx rfl ((HP.set_other _ _ hTq).trans b0) (by rw [hl]; exact hq) (by first | rfl | (simp only [PV.one, pint, pfr]; done)) rfl ?_
    have H2 : GH n T tk (ovr (ovr off p (off p + 1)) q (ovr off p (off p + 1) q)) (cutG g p q) ((X.set (tk q) (List.replicate (ovr off p (off p + 1) q) .junk ++ (nI ((g q).erase p)).map fun y => .sc (.int .i64 y))).set T ((gcs n tk (ovr off p (off p + 1)) (ovr g p r)).set q (.ref (tk q) (ovr off p (off p + 1) q) 1 ((g q).erase p).length))) := by
      have := H1.turn (v := q) (o := ovr off p (off p + 1) q) (l := (g q).erase p) (X := (X.set (tk q) (List.replicate (ovr off p (off p + 1) q) .junk ++ (nI ((g q).erase p)).map fun y => .sc (.int .i64 y))).set T ((gcs n tk (ovr off p (off p + 1)) (ovr g p r)).set q (.ref (tk q) (ovr off p (off p + 1) q) 1 ((g q).erase p).length))) hq rfl (HP.set_same _ _ _) (fun j hj hne => (HP.set_other _ _ (H1.ne j hj)).trans (HP.set_other _ _ (fun e => hne (H1.inj j q hj hq e)))) ⟨List.replicate (ovr off p (off p + 1) q) .junk, by simp, (HP.set_other _ _ (H1.ne q hq)).trans ((HP.set_same _ _ _).trans rfl)⟩
      have hc := cut_ovr (g := g) hne
      rw [e] at hc
      rw [show ovr (ovr g p r) q ((g q).erase p) = cutG g p q from hc] at this
      exact this
    have hev2 := H1.ev q hq
    have hF2 := (hF1.set (tk := tk q) (List.replicate (ovr off p (off p + 1) q) .junk ++ (nI ((g q).erase p)).map fun y => .sc (.int .i64 y)) (.inl (hmR q hq))).set ((gcs n tk (ovr off p (off p + 1)) (ovr g p r)).set q (.ref (tk q) (ovr off p (off p + 1) q) 1 ((g q).erase p).length)) (.inl hmT)
    have hv2 : ((X.set (tk q) (List.replicate (ovr off p (off p + 1) q) .junk ++ (nI ((g q).erase p)).map fun y => .sc (.int .i64 y))).set T ((gcs n tk (ovr off p (off p + 1)) (ovr g p r)).set q (.ref (tk q) (ovr off p (off p + 1) q) 1 ((g q).erase p).length))).blk tf = some [.ref T 0 1 n] := (HP.set_other _ _ (by omega)).trans ((HP.set_other _ _ (by omega)).trans hv1)
    generalize (X.set (tk q) (List.replicate (ovr off p (off p + 1) q) .junk ++ (nI ((g q).erase p)).map fun y => .sc (.int .i64 y))).set T ((gcs n tk (ovr off p (off p + 1)) (ovr g p r)).set q (.ref (tk q) (ovr off p (off p + 1) q) 1 ((g q).erase p).length)) = Y at *
    clear p1 p2 b0 hl hbw
    have hmu := tdeg_cut hg hpn e
    repeat (first | refine S0 ?_ | refine S1 ?_ | refine S2 ?_ | refine S3 ?_ | refine S4 ?_ | refine S5 ?_ | refine S6 ?_ | refine S7 ?_ | refine S8 ?_ | refine S10 ?_ | refine S11 ?_ | refine S13 ?_ | refine S15 ?_ | refine S16 ?_ | refine S19 ?_ | refine S20 ?_ | refine S22 ?_ | refine S24 ?_ | refine S27 ?_ | refine S30 ?_ | refine S45 ?_ | refine S46 ?_ | refine S67 ?_)
    exact ⟨(cutG g p q, q, _), ⟨hq, hg1, fun v => by have h1 := cut_len hg hpn e v; have h2 := hd v; show (cutG g p q v).length ≤ 100; omega, fun g' e2 hw => hW g' e2 (.step e hw)⟩, SLx, ⟨H2, hv2, hF2⟩, hmu⟩
end Go.Proofs.Ytdlpbpfcgjgppaa
