/- Facts and contracts that the claim uses. No condition of its own. -/
import Derived.Test.YtdlpbpfcgjgppaaGJonesStatesAR
import Derived.Test.YtdlpbpfcgjgppaaGJonesStatesAS
import Derived.Test.YtdlpbpfcgjgppaaGJonesStatesAT
import Derived.Test.YtdlpbpfcgjgppaaGJonesStatesAA
set_option linter.unusedVariables false
set_option linter.unusedSimpArgs false
namespace Go.Proofs.Ytdlpbpfcgjgppaa
open Go.RowKit
theorem take_eq_succ {xs ys : List Int} {k : Nat} (h1 : k < xs.length) (h2 : k < ys.length) (h : xs.take k = ys.take k) (he : xs.getD k 0 = ys.getD k 0) : xs.take (k + 1) = ys.take (k + 1) := by
  rw [List.take_succ_eq_append_getElem h1, List.take_succ_eq_append_getElem h2, h, ← getD_lt 0 h1, ← getD_lt 0 h2, he]
set_option maxHeartbeats 1000000 in
set_option maxRecDepth 100000 in
theorem equal_s (xs ys : List Int) : SC Try.prog 25 [pli xs, pli ys] (.sc (.bool (decide (xs = ys)))) := by
  refine SC.len (callable Try.func25 rfl rfl) (fun hlen => ?_)
  have hx : xs.length ≤ 9223372036854775807 := hlen (pli xs) (by simp)
  clear hlen
  refine SC.go {} tok mixed Try.func25 rfl rfl Try.ntmps25 rfl rfl (by kernel_rfl) ?_
  first | simp only [updS] | simp only [updL, Nat.reduceAdd]
  by_cases hl : xs.length = ys.length
  · repeat (first | refine S0 ?_ | refine S1 ?_ | refine S2 ?_ | refine S3 ?_ | refine S4 ?_ | refine S5 ?_ | refine S6 ?_ | refine S7 ?_ | refine S8 ?_ | refine S9 ?_ | refine S10 ?_ | refine S11 ?_ | refine S12 ?_ | refine S13 ?_ | refine S15 ?_ | refine S16 ?_ | refine S19 ?_ | refine S20 ?_ | refine S21 ?_ | refine S22 ?_ | refine S23 ?_ | refine S25 ?_ | refine S26 ?_ | refine S29 ?_)
    refine CW.loopS (fun k : Nat => k ≤ xs.length ∧ xs.take k = ys.take k) (fun k => [(0, pli xs), (1, pli ys), (12, pint xs.length), (13, pint k)]) (fun _ _ => True) (fun k => xs.length - k) 0 ⟨⟨by omega, rfl⟩, SLx, trivial⟩ ?_
    intro k t h ⟨hk, hg⟩ _
    first | simp only [updS] | simp only [updL, Nat.reduceAdd]
    by_cases hk2 : k < xs.length
    · by_cases he : xs.getD k 0 = ys.getD k 0
      · repeat (first | refine S0 ?_ | refine S1 ?_ | refine S2 ?_ | refine S3 ?_ | refine S4 ?_ | refine S5 ?_ | refine S6 ?_ | refine S7 ?_ | refine S8 ?_ | refine S9 ?_ | refine S10 ?_ | refine S11 ?_ | refine S12 ?_ | refine S13 ?_ | refine S15 ?_ | refine S16 ?_ | refine S19 ?_ | refine S20 ?_ | refine S21 ?_ | refine S22 ?_ | refine S23 ?_ | refine S25 ?_ | refine S26 ?_ | refine S29 ?_)
        exact ⟨k + 1, ⟨by omega, take_eq_succ hk2 (by omega) hg he⟩, SLx, trivial, by omega⟩
      · repeat (first | refine S0 ?_ | refine S1 ?_ | refine S2 ?_ | refine S3 ?_ | refine S4 ?_ | refine S5 ?_ | refine S6 ?_ | refine S7 ?_ | refine S8 ?_ | refine S9 ?_ | refine S10 ?_ | refine S11 ?_ | refine S12 ?_ | refine S13 ?_ | refine S15 ?_ | refine S16 ?_ | refine S19 ?_ | refine S20 ?_ | refine S21 ?_ | refine S22 ?_ | refine S23 ?_ | refine S25 ?_ | refine S26 ?_ | refine S29 ?_)
        refine ⟨.inr rfl, ?_⟩
        rw [show decide (xs = ys) = false from decide_eq_false (fun e => he (by rw [e]))]
        exact .cl rfl
    · repeat (first | refine S0 ?_ | refine S1 ?_ | refine S2 ?_ | refine S3 ?_ | refine S4 ?_ | refine S5 ?_ | refine S6 ?_ | refine S7 ?_ | refine S8 ?_ | refine S9 ?_ | refine S10 ?_ | refine S11 ?_ | refine S12 ?_ | refine S13 ?_ | refine S15 ?_ | refine S16 ?_ | refine S19 ?_ | refine S20 ?_ | refine S21 ?_ | refine S22 ?_ | refine S23 ?_ | refine S25 ?_ | refine S26 ?_ | refine S29 ?_)
      refine ⟨.inr rfl, ?_⟩
      have e : xs = ys := by rw [List.take_of_length_le (by omega), List.take_of_length_le (by omega)] at hg; exact hg
      rw [show decide (xs = ys) = true from decide_eq_true e]
      exact .cl rfl
  · repeat (first | refine S0 ?_ | refine S1 ?_ | refine S2 ?_ | refine S3 ?_ | refine S4 ?_ | refine S5 ?_ | refine S6 ?_ | refine S7 ?_ | refine S8 ?_ | refine S9 ?_ | refine S10 ?_ | refine S11 ?_ | refine S12 ?_ | refine S13 ?_ | refine S15 ?_ | refine S16 ?_ | refine S19 ?_ | refine S20 ?_ | refine S21 ?_ | refine S22 ?_ | refine S23 ?_ | refine S25 ?_ | refine S26 ?_ | refine S29 ?_)
    refine ⟨.inr rfl, ?_⟩
    rw [show decide (xs = ys) = false from decide_eq_false (fun e => hl (by rw [e]))]
    exact .cl rfl
set_option maxHeartbeats 1000000 in
set_option maxRecDepth 100000 in
theorem clip_s (xs : List Int) : SC Try.prog 37 [pli xs] (.lst true 1 xs.length (ints xs)) := by
  refine SC.go {} tok mixed Try.func37 rfl rfl Try.ntmps37 rfl rfl (by kernel_rfl) ?_
  first | simp only [updS] | simp only [updL, Nat.reduceAdd]
  repeat (first | refine S0 ?_ | refine S1 ?_ | refine S2 ?_ | refine S7 ?_ | refine S8 ?_ | refine S19 ?_ | refine S20 ?_ | refine S23 ?_ | refine S58 ?_)
  exact ⟨.inr rfl, .cl (by exact (show (PV.lst true 1 xs.length (ints xs)).cl = true by simp [PV.cl, ints_cl]))⟩
set_option maxHeartbeats 1000000 in
set_option maxRecDepth 100000 in
theorem clone_s (xs : List Int) (hl : xs.length ≤ 1000000) : SC Try.prog 62 [pli xs] (pli xs) := by
  refine SC.go {} tok mixed Try.func62 rfl rfl Try.ntmps62 rfl rfl (by kernel_rfl) ?_
  first | simp only [updS] | simp only [updL, Nat.reduceAdd]
  by_cases h0 : xs.length = 0
  · obtain rfl : xs = [] := List.length_eq_zero_iff.1 h0
    repeat (first | refine S0 ?_ | refine S1 ?_ | refine S2 ?_ | refine S5 ?_ | refine S7 ?_ | refine S8 ?_ | refine S9 ?_ | refine S16 ?_ | refine S17 ?_ ?_ | refine S19 ?_ | refine S20 ?_ | refine S49 ?_ | refine S57 ?_ | refine S64 ?_)
    · exact ⟨.inr rfl, .nrm rfl⟩
    · repeat (first | refine S0 ?_ | refine S1 ?_ | refine S2 ?_ | refine S5 ?_ | refine S7 ?_ | refine S8 ?_ | refine S9 ?_ | refine S16 ?_ | refine S17 ?_ ?_ | refine S19 ?_ | refine S20 ?_ | refine S49 ?_ | refine S57 ?_ | refine S64 ?_)
      refine AW.ap0 (by first | exact Or.inl rfl | exact Or.inr ⟨rfl, HP.tok_even _⟩ | exact Or.inr (Or.inl ⟨rfl, HP.tok_even _⟩) | exact Or.inr (Or.inr ⟨rfl, HP.tok_odd _⟩) | exact Or.inr (Or.inl rfl) | exact Or.inr (Or.inr (Or.inl rfl)) | exact Or.inr (Or.inr (Or.inr (Or.inl ⟨rfl, HP.tok_odd _⟩))) | exact Or.inr (Or.inr (Or.inr (Or.inr ⟨rfl, HP.tok_even _⟩))) | exact Or.inr (Or.inr (Or.inr (Or.inr ⟨rfl, by assumption⟩))) | exact Or.inr ⟨rfl, by assumption⟩ | exact Or.inr (Or.inl ⟨rfl, by assumption⟩) | exact Or.inr (Or.inr ⟨rfl, by assumption⟩) | exact Or.inr (Or.inr (Or.inr (Or.inl ⟨rfl, by assumption⟩))) | exact Or.inr (Or.inr (Or.inl ⟨rfl, HP.tok_odd _⟩)) | exact Or.inr (Or.inr (Or.inl ⟨rfl, by assumption⟩)) | exact Or.inr (Or.inr (Or.inr rfl)) | exact Or.inr (Or.inr rfl) | exact Or.inr rfl) (by simp only [evA, upd, putA, ofConst, ofConst.ofCell, Nat.reduceEqDiff, ↓reduceIte, List.map_cons, List.map_nil, List.toList_toArray]; first | done | rfl) rfl (by first | exact ⟨rfl, rfl, .inr rfl⟩ | exact ⟨rfl, rfl, .inl rfl⟩ | (simp only [evA, upd, putA, Nat.reduceEqDiff, ↓reduceIte]; first | exact ⟨rfl, rfl, .inr rfl⟩ | exact ⟨rfl, rfl, .inl rfl⟩)) ?_
      repeat (first | refine S0 ?_ | refine S1 ?_ | refine S2 ?_ | refine S5 ?_ | refine S7 ?_ | refine S8 ?_ | refine S9 ?_ | refine S16 ?_ | refine S17 ?_ ?_ | refine S19 ?_ | refine S20 ?_ | refine S49 ?_ | refine S57 ?_ | refine S64 ?_)
      exact ⟨.inr rfl, .nrm rfl⟩
  · repeat (first | refine S0 ?_ | refine S1 ?_ | refine S2 ?_ | refine S5 ?_ | refine S7 ?_ | refine S8 ?_ | refine S9 ?_ | refine S16 ?_ | refine S17 ?_ ?_ | refine S19 ?_ | refine S20 ?_ | refine S49 ?_ | refine S57 ?_ | refine S64 ?_)
    exact ⟨.inr rfl, Fz.refI HBx (by first | (simp; done) | (simp; omega)) (by first | rfl | (simp; done))⟩
end Go.Proofs.Ytdlpbpfcgjgppaa

/- Facts and contracts that the claim uses. No condition of its own. -/
set_option linter.unusedVariables false
set_option linter.unusedSimpArgs false
namespace Go.Proofs.Ytdlpbpfcgjgppaa
open Go.RowKit
open Go.Sort in
theorem delete_m {zs : List Int} {i j : Nat} (hij : i ≤ j) (hj : j ≤ zs.length) : SCm Try.prog 92 zs [.int .i64 i, .int .i64 j] (zs.take i ++ zs.drop j) := by
  refine ⟨callable Try.func92 rfl rfl, fun w b k cap arr T hb hcap hn hm hv => ?_⟩
  unfold maxLen at hm
  have hH : Holds (Value.int .i64) w b k zs.toArray := by
    intro q hq
    have hq' : q < zs.length := by simpa using hq
    refine ⟨?_, by simp [World.frozen?, hb]⟩
    rw [cell_live hb (by omega), hv q hq', getD_lt 0 hq']
    simp [hq']
  refine (Try.slices_Delete_int b k cap i j zs w hH hn (by omega) hij hj).mono fun e w' hh => ?_
  obtain ⟨rfl, q, rfl⟩ := hh
  have hlen : (zs.take i ++ zs.drop j ++ List.replicate (j - i) 0).length = zs.length := by simp; omega
  have hyl : (zs.take i ++ zs.drop j).length = zs.length - (j - i) := by simp; omega
  refine ⟨by rw [hyl], by omega, ?_⟩
  generalize hd : (zs.take i ++ zs.drop j ++ List.replicate (j - i) 0).toArray = d
  have hds : d.size = zs.length := by rw [← hd]; simpa using hlen
  have hbw : (putRow (Value.int .i64) (Sort.ahead w q) b k d).heap[b]? = some (.cells (putCells (Value.int .i64) k d arr) T (0, 0)) := by
    simp [putRow, mapBlock, Array.getElem?_modify, hb, onCells]
  have hcells : ∀ m, m < zs.length → (putCells (Value.int .i64) k d arr).getD (k + m) undef = .int .i64 (d[m]!) := fun m hm2 => by
    have h1 : k + m < arr.size := by omega
    simp [putCells, Array.getD, h1, hds, hm2]
  refine ⟨putCells (Value.int .i64) k d arr, by simp [putCells], ⟨rfl, rfl, rfl, by simp [putRow, mapBlock], fun m _ => ?_⟩, fun m hm2 => ?_⟩
  · by_cases e : m = b
    · subst e
      rw [hbw, setRow_heap w m arr _ T (0, 0) hb]
    · rw [setRow_other _ _ _ _ e]
      have hn : ¬ b = m := fun h => e h.symm
      simp [putRow, mapBlock, Array.getElem?_modify, hn]
  · rw [hcells m (by omega)]
    subst hd
    rw [getD_lt 0 hm2]
    have h3 : m < zs.length := by omega
    have h4 : m < (zs.take i ++ zs.drop j ++ List.replicate (j - i) 0).length := by omega
    congr 1
    have h5 : (zs.take i ++ zs.drop j ++ List.replicate (j - i) 0)[m]? = some ((zs.take i ++ zs.drop j)[m]) := by
      rw [List.getElem?_append_left hm2, List.getElem?_eq_getElem hm2]
    generalize (zs.take i ++ zs.drop j)[m] = v at *
    rw [List.append_assoc] at h5
    simp [h5]
end Go.Proofs.Ytdlpbpfcgjgppaa

/- Facts and contracts that the claim uses. No condition of its own. -/
set_option linter.unusedVariables false
set_option linter.unusedSimpArgs false
namespace Go.Proofs.Ytdlpbpfcgjgppaa
open Go.RowKit
variable {P : Program} {T : TypeId → TI} {M : Hn} {t : Nat → PV} {h : HP} {n : Nat} {Q : Exit → AS → Prop}
theorem HRel.nrm {w0 : World} {Z0 : Nat → Prop} {ρ : Pl} {w : World} (H : HRel w0 Z0 ρ h w) {tk : Nat} {cs : List PV} (ht : h.blk tk = some cs) :
    HRel w0 Z0 ρ (h.set tk (cs.map PV.nrm0)) w ∧ ∀ pv u, V ρ (Zof Z0 ρ h) w pv u → V ρ (Zof Z0 ρ (h.set tk (cs.map PV.nrm0))) w pv u := by
  have hZ : ∀ k, Zof Z0 ρ (h.set tk (cs.map PV.nrm0)) k → Zof Z0 ρ h k := by
    rintro k (hk | ⟨x, c, o', h1, h2⟩ | hk)
    · exact .inl hk
    · by_cases e : x = tk
      · subst e; exact .inr (.inl ⟨x, cs, o', ht, h2⟩)
      · rw [HP.set_other _ _ e] at h1; exact .inr (.inl ⟨x, c, o', h1, h2⟩)
    · exact .inr (.inr hk)
  have up : ∀ pv u, V ρ (Zof Z0 ρ h) w pv u → V ρ (Zof Z0 ρ (h.set tk (cs.map PV.nrm0))) w pv u := fun pv u hV => hV.ext (Ext.refl _ _) (fun k _ hk => hZ k hk) (fun _ _ h => h)
  have back : ∀ x c, (h.set tk (cs.map PV.nrm0)).blk x = some c → ∃ c', h.blk x = some c' := fun x c hc => by
    by_cases e : x = tk
    · subst e; exact ⟨cs, ht⟩
    · rw [HP.set_other _ _ e] at hc; exact ⟨c, hc⟩
  refine ⟨⟨H.below, H.z0, fun x c h1 => ?_, fun x x' c c' k o1 o2 h1 h2 r1 r2 => ?_, fun x hx => ?_, fun x c h1 => ?_, H.sinj, fun x hw => ?_⟩, up⟩
  · by_cases e : x = tk
    · subst e
      rw [HP.set_same] at h1; cases h1
      rcases H.live x cs ht with ⟨hn, hn2⟩ | ⟨b2, o2, a2, T2, g1, g2, g3, g4, g5⟩
      · exact .inl ⟨by rw [hn]; simp, hn2⟩
      · refine .inr ⟨b2, o2, a2, T2, g1, g2, g3, by simpa using g4, fun i hi => up _ _ ?_⟩
        have hi' : i < cs.length := by simpa using hi
        have := (g5 i hi').nrm0
        simp only [List.getD, hi', List.getElem?_eq_getElem, Option.getD_some] at this
        simp only [List.getD, List.getElem?_map, hi', List.getElem?_eq_getElem, Option.getD_some, Option.map_some]
        exact this
    · rw [HP.set_other _ _ e] at h1
      rcases H.live x c h1 with hn | ⟨b2, o2, a2, T2, g1, g2, g3, g4, g5⟩
      · exact .inl hn
      · exact .inr ⟨b2, o2, a2, T2, g1, g2, g3, g4, fun i hi => up _ _ (g5 i hi)⟩
  · obtain ⟨d1, k1⟩ := back x c h1
    obtain ⟨d2, k2⟩ := back x' c' h2
    exact H.inj x x' d1 d2 k o1 o2 k1 k2 r1 r2
  · have := H.free x hx
    have e : x ≠ tk := fun e => by rw [e, ht] at this; cases this.1
    exact ⟨by rw [HP.set_other _ _ e]; exact this.1, this.2⟩
  · obtain ⟨b, obj, g1, g2, g3, g4⟩ := H.slive x c h1
    exact ⟨b, obj, g1, g2, g3, g4.ext (Ext.refl _ _) (fun k _ hz' => hZ k hz') (fun _ _ h => h)⟩
  · obtain ⟨q1, q2, q3⟩ := H.wfree x hw
    exact ⟨by rw [HP.set_other _ _ (fun e => by rw [e, ht] at q1; cases q1)]; exact q1, q2, q3⟩
theorem CW.nrmB {c : Code} (tk : Nat) {cs r : List PV} (hb : h.blk tk = some cs) (hr : cs.map PV.nrm0 = r) (hk : CW P T M n c ⟨t, h.set tk r⟩ Q) : CW P T M n c ⟨t, h⟩ Q := by
  subst hr
  refine ⟨fun h1 h2 h3 => ?_⟩
  have h4 := hk.out h1 h2 h3
  intro E w0 Z0 ρ a w R
  obtain ⟨H', up⟩ := R.heap.nrm hb
  exact h4 E w0 Z0 ρ a w ⟨R.defers, R.size, fun x => up _ _ (R.tmps x), H', fun p u h => up _ _ (R.mem p u h)⟩
theorem CW.midS {ι : Type} {c : Code} {s : AS} {next : AS → Prop} (C : ι → Prop) (sl : ι → List (Nat × PV)) (hp : ι → HP → Prop) (h1 : CW P T M n c s (TQ (fun s' => ∃ i, C i ∧ allS (sl i) s'.tmps ∧ hp i s'.hp) Q)) (h2 : ∀ i t h, C i → hp i h → next ⟨updS (sl i) t, h⟩) : CW P T M n c s (TQ next Q) := by
  refine ⟨fun q1 q2 q3 => .mono (h1.out q1 q2 q3) (fun e s' hh => ⟨?_⟩)⟩
  have := hh.out
  cases e with
  | normal =>
    obtain ⟨i, k1, k2, k3⟩ := this
    have := h2 i s'.tmps s'.hp k1 k3
    rw [updS_eta _ _ k2] at this
    exact this
  | _ => exact this
theorem CW.midB {ι : Type} {c : Code} {s : AS} {id : Nat} {next : AS → Prop} (C : ι → Prop) (sl : ι → List (Nat × PV)) (hp : ι → HP → Prop) (h1 : CW P T M n c s (BQ id (TQ (fun s' => ∃ i, C i ∧ allS (sl i) s'.tmps ∧ hp i s'.hp) Q))) (h2 : ∀ i t h, C i → hp i h → next ⟨updS (sl i) t, h⟩) : CW P T M n c s (BQ id (TQ next Q)) := by
  have key : ∀ s', (∃ i, C i ∧ allS (sl i) s'.tmps ∧ hp i s'.hp) → next s' := fun s' ⟨i, k1, k2, k3⟩ => by
    have := h2 i s'.tmps s'.hp k1 k3
    rw [updS_eta _ _ k2] at this
    exact this
  have key2 : ∀ e s', TQ (fun s' => ∃ i, C i ∧ allS (sl i) s'.tmps ∧ hp i s'.hp) Q e s' → TQ next Q e s' := fun e s' hh => ⟨by
    have := hh.out
    cases e with
    | normal => exact key s' this
    | _ => exact this⟩
  refine ⟨fun q1 q2 q3 => .mono (h1.out q1 q2 q3) (fun e s' hh => ⟨?_⟩)⟩
  have := hh.out
  cases e with
  | exit id' => exact ⟨fun e => key2 _ _ (this.1 e), fun e => key2 _ _ (this.2 e)⟩
  | _ => exact key2 _ _ this
end Go.Proofs.Ytdlpbpfcgjgppaa

/- Facts and contracts that the claim uses. No condition of its own. -/
set_option linter.unusedVariables false
set_option linter.unusedSimpArgs false
namespace Go.Proofs.Ytdlpbpfcgjgppaa
open Go.RowKit
variable {P : Program} {T : TypeId → TI} {M : Hn} {cl : Oper → Cls} {ops : Array Oper} {l : List Oper} {t : Nat → PV} {h : HP} {K : AS → Prop} {d : Nat} {ty : TypeId} {pos : String} {aft : Array Edge} {n : Nat} {Q : Exit → AS → Prop}
theorem HRel.cells {w0 : World} {Z0 : Nat → Prop} {ρ : Pl} {w : World} (H : HRel w0 Z0 ρ h w) {tk b k off : Nat} {cs cs2 : List PV} {arr : Array Value} {T : TypeId} {news : List Value} (hb : h.blk tk = some cs) (r1 : ρ tk = some (b, k)) (r3 : w.heap[b]? = some (.cells arr T (0, 0)))
    (hl : cs2.length = news.length) (hle : off + news.length ≤ cs.length) (hv : ∀ i, i < cs2.length → V ρ (Zof Z0 ρ h) w (cs2.getD i .junk) (news.getD i undef)) :
    HRel w0 Z0 ρ (h.set tk (cs.take off ++ cs2 ++ cs.drop (off + news.length))) (w.setRow b (arr.toList.take (k + off) ++ news ++ arr.toList.drop (k + off + news.length)).toArray) ∧
      ∀ pv u, V ρ (Zof Z0 ρ h) w pv u → V ρ (Zof Z0 ρ (h.set tk (cs.take off ++ cs2 ++ cs.drop (off + news.length)))) (w.setRow b (arr.toList.take (k + off) ++ news ++ arr.toList.drop (k + off + news.length)).toArray) pv u := by
  rcases H.live tk cs hb with ⟨_, k1⟩ | ⟨b', o', arr', T', k1, k2, k3, k4, k5⟩
  · rw [r1] at k1; cases k1
  rw [r1] at k1; cases k1
  rw [r3] at k3; cases k3
  have hlen : (cs.take off ++ cs2 ++ cs.drop (off + news.length)).length = cs.length := by simp; omega
  refine H.write hb r1 r3 _ (by simp; omega) _ (by omega) (fun i hi => ?_)
  rw [hlen] at hi
  rw [show ∀ (l : List Value) j, l.toArray.getD j undef = l.getD j undef from fun l j => by simp [Array.getD, List.getD]; split <;> simp_all]
  simp only [List.getD, List.append_assoc]
  by_cases c1 : i < off
  · have := k5 i hi
    simp only [List.getD] at this
    rw [List.getElem?_append_left (by simp; omega), List.getElem?_take, if_pos c1, List.getElem?_append_left (by simp; omega), List.getElem?_take, if_pos (by omega)]
    have hi2 : k + i < arr.size := by omega
    simpa [Array.getD, hi2] using this
  · have y1 : (List.take off cs ++ (cs2 ++ List.drop (off + news.length) cs))[i]? = (cs2 ++ List.drop (off + news.length) cs)[i - off]? := by
      rw [List.getElem?_append_right (by simp; omega)]
      congr 1; simp; omega
    have y2 : (List.take (k + off) arr.toList ++ (news ++ List.drop (k + off + news.length) arr.toList))[k + i]? = (news ++ List.drop (k + off + news.length) arr.toList)[i - off]? := by
      rw [List.getElem?_append_right (by simp; omega)]
      congr 1; simp; omega
    rw [y1, y2]
    by_cases c2 : i < off + news.length
    · have := hv (i - off) (by omega)
      simp only [List.getD] at this
      rw [List.getElem?_append_left (by omega), List.getElem?_append_left (by omega)]
      exact this
    · have := k5 i hi
      simp only [List.getD] at this
      rw [List.getElem?_append_right (by omega), List.getElem?_append_right (by omega), List.getElem?_drop, List.getElem?_drop]
      rw [show off + news.length + (i - off - cs2.length) = i by omega, show k + off + news.length + (i - off - news.length) = k + i by omega]
      have hi2 : k + i < arr.size := by omega
      simpa [Array.getD, hi2] using this
theorem zeroCells_one {c : Array Value} {z : Value} (n : Nat) (hz : c.toList = [z]) : (Builtin.zeroCells c n).toList = List.replicate n z := by
  obtain rfl : c = #[z] := by cases c; simp_all
  simp [Builtin.zeroCells]
  apply List.ext_getElem
  · simp
  · intro i h1 h2
    simp [Nat.mod_one]
theorem AW.clr {tt : TypeId} {x : Operand} {el bs tk off m : Nat} {z : Value} {cs : List PV} (hx : evA t x = .ref tk off 1 m) (ht : T tt = .sl el 1 bs [z]) (h0 : cl = (fun _ => Cls.wr)) (hb : h.blk tk = some cs) (hl : off + m ≤ cs.length) (h1 : z.oneCell' = true)
    (hk : AW P T M cl ops l ⟨t, h.set tk (cs.take off ++ List.replicate m (ofConst.ofCell z) ++ cs.drop (off + m))⟩ K) : AW P T M cl ops (⟨none, .call ⟨.builtin .clear, #[x], #[tt]⟩, ty, pos, aft, none⟩ :: l) ⟨t, h⟩ K := by
  refine ⟨.inr ⟨h0, .inl rfl, (fun _ hh => by cases hh), fun hT => ?_⟩⟩
  intro w0 Z0 ρ w a Kw Q H he hK
  have hS : SlT P tt el 1 bs [z] := by have := hT tt; rw [ht] at this; exact this.2.2
  obtain ⟨i, z', q1, q2, q3, q4, q5⟩ := hS.info
  have e1 := he x
  simp only at e1
  rw [hx] at e1
  obtain ⟨cap, A, ex, g1, g2, g3⟩ := e1.ref_inv
  have hK2 : ∀ u w' ρ', HRel w0 Z0 ρ' (h.set tk (cs.take off ++ List.replicate m (ofConst.ofCell z) ++ cs.drop (off + m))) w' → (∀ pv x, V ρ (Zof Z0 ρ h) w pv x → V ρ' (Zof Z0 ρ' (h.set tk (cs.take off ++ List.replicate m (ofConst.ofCell z) ++ cs.drop (off + m)))) w' pv x) → Kw (a.put none u) w' :=
    fun u w' ρ' H' up => hK .junk _ u w' ρ' hk.out H' (.junk _) up
  by_cases hm : m = 0
  · subst hm
    have e : h.set tk (cs.take off ++ List.replicate 0 (ofConst.ofCell z) ++ cs.drop (off + 0)) = h := by
      rw [List.replicate_zero, List.append_nil, Nat.add_zero, List.take_append_drop]; exact HP.set_self hb
    rw [e] at hK2
    refine wp_val (u := .tuple #[]) (w' := w) ?_ (hK2 _ w ρ H (fun _ _ h => h))
    cases A <;> simp [execOp, resolve, invoke, builtin, ex, Builtin.clear_, run_underlying hS.und]
  · obtain ⟨b, k, arr, T', r1, rfl, r3, r4⟩ := g3 (by omega)
    have hp := H.cells (off := off) (cs2 := List.replicate m (ofConst.ofCell z)) (news := List.replicate m z) hb r1 r3 (by simp) (by simpa using hl) (fun i hi => by
      have hi' : i < m := by simpa using hi
      simp only [List.getD, List.getElem?_replicate, if_pos hi', Option.getD_some]
      exact V.ofCell z)
    simp only [List.length_replicate] at hp
    obtain ⟨H', up⟩ := hp
    have hst := run_storeCells_at P b (k + off) T' (List.replicate m z) 0 arr w r3 (by simp; omega) (by intro v hv'; rw [List.eq_of_mem_replicate hv']; exact h1)
    simp only [Nat.add_zero, List.length_replicate] at hst
    refine wp_val (u := .tuple #[]) (w' := w.setRow b _) ?_ (hK2 _ _ ρ H' up)
    obtain ⟨m, rfl⟩ : ∃ m', m = m' + 1 := ⟨m - 1, by omega⟩
    simp [execOp, resolve, invoke, builtin, ex, Builtin.clear_, run_underlying hS.und, zeroValue, typeInfo, q1, q4, zeroCells_one _ q5, hst]
theorem bw_ref {tk off sz m : Nat} {cs r : List PV} (hb : h.blk tk = some cs) (hl : off + m * sz ≤ cs.length) (hr : (cs.drop off).take (m * sz) = r) : bw h (.ref tk off sz m) = .lst false sz m r := by
  subst hr
  simp only [bw, hb, if_pos hl]
theorem AW.slrFr {P : Program} {T : TypeId → TI} {M : Hn} {t : Nat → PV} {h : HP} {cl : Oper → Cls} {ops : Array Oper} {l : List Oper} {K : AS → Prop} {d : Nat} {ty : TypeId} {pos : String} {aft : Array Edge} {tt : TypeId} {x lo : Operand} {el bs m tk off q : Nat} {zc : List Value} {k1 : IntKind} {z : Int} (hx : evA t x = .ref tk off 1 m) (ht : T tt = .sl el 1 bs zc) (hl : evA t lo = .sc (.int k1 z)) (hz : z = (q : Int)) (hb : q ≤ m)
    (hk : AW P T M cl ops l ⟨upd t d (.ref tk (off + q) 1 (m - q)), h⟩ K) : AW P T M cl ops (⟨some d, .slice tt x (some lo) none none, ty, pos, aft, none⟩ :: l) ⟨t, h⟩ K := by
  subst hz
  have := AW.slr (P := P) (M := M) (cl := cl) (ops := ops) (l := l) (h := h) (K := K) (d := d) (ty := ty) (pos := pos) (aft := aft) (lo := some lo) (hi := none) hx ht ⟨_, hl⟩ rfl ⟨by omega, by omega, Int.le_refl _⟩
  rw [show off + ((q : Nat) : Int).toNat * 1 = off + q by simp, show ((m : Nat) : Int).toNat - ((q : Nat) : Int).toNat = m - q by simp] at this
  exact this hk
theorem RC.cell1 {s : AS} {x t tk sz : Nat} {cs : List PV} (hx : s.tmps x = .ptr tk 0) (hb : s.hp.blk tk = some cs) (ht : (T t).shape = some (true, sz)) (hl : cs.length = sz) : retC T s [.cell x t] [.agg cs] :=
  ⟨_, _, rfl, ⟨tk, 0, cs, hx, hb, .inl ⟨sz, ht, by omega, by rw [List.drop_zero, List.take_of_length_le (by omega)]⟩⟩, rfl⟩
end Go.Proofs.Ytdlpbpfcgjgppaa

/- Facts and contracts that the claim uses. No condition of its own. -/
set_option linter.unusedVariables false
set_option linter.unusedSimpArgs false
namespace Go.Proofs.Ytdlpbpfcgjgppaa
open Go.RowKit
variable {P : Program} {T : TypeId → TI} {M : Hn} {cl : Oper → Cls} {ops : Array Oper} {l : List Oper} {t : Nat → PV} {h : HP} {K : AS → Prop} {d : Nat} {ty : TypeId} {pos : String} {aft : Array Edge} {n : Nat} {Q : Exit → AS → Prop}
end Go.Proofs.Ytdlpbpfcgjgppaa

/- Facts and contracts that the claim uses. No condition of its own. -/
set_option linter.unusedVariables false
set_option linter.unusedSimpArgs false
namespace Go.Proofs.Ytdlpbpfcgjgppaa
open Go.RowKit
theorem OpE.callv {P : Program} {o : Oper} {s : AS} {K : PV → HP → Prop} {f : FuncId} {cap : List PV} {y : Operand} {xs : Array Operand} {ats : Array TypeId} (ho : o.op = .call ⟨.value y, xs, ats⟩) (hy : evA s.tmps y = .clo f cap) (hs : SChE P f (xs.toList.map (evA s.tmps) ++ cap) s.hp K) : OpE P o s K := by
  intro w0 Z0 ρ w a Kw Q H he hK
  have e1 := he y
  rw [hy] at e1
  obtain ⟨vs, e2, q1, q2⟩ := e1.clo_inv
  obtain ⟨hl, hv⟩ := map_args (ρ := ρ) (w := w) (rfl : xs.toList.map (evA s.tmps) = _) a.eval (Zof Z0 ρ s.hp) (fun x _ => he x)
  have hall : ∀ i, i < (xs.toList.map (evA s.tmps) ++ cap).length → V ρ (Zof Z0 ρ s.hp) w ((xs.toList.map (evA s.tmps) ++ cap).getD i .junk) ((xs.map a.eval ++ vs).getD i undef) := fun i hi => by
    by_cases c1 : i < xs.size
    · have := hv i (by simpa using c1)
      have e3 : (xs.toList.map (evA s.tmps) ++ cap).getD i .junk = (xs.toList.map (evA s.tmps)).getD i .junk := by simp [List.getD, List.getElem?_append_left (show i < (xs.toList.map (evA s.tmps)).length by simpa using c1)]
      have e4 : (xs.map a.eval ++ vs).getD i undef = (xs.map a.eval).getD i undef := by simp [Array.getElem?_append_left (show i < (xs.map a.eval).size by simpa using c1)]
      rw [e3, e4]; exact this
    · have := q2 (i - xs.size) (by simp at hi; omega)
      have e3 : (xs.toList.map (evA s.tmps) ++ cap).getD i .junk = cap.getD (i - xs.size) .junk := by simp [List.getD, List.getElem?_append_right (show (xs.toList.map (evA s.tmps)).length ≤ i by simpa using Nat.le_of_not_lt c1)]
      have e4 : (xs.map a.eval ++ vs).getD i undef = vs.getD (i - xs.size) undef := by simp [Array.getElem?_append_right (show (xs.map a.eval).size ≤ i by simpa using Nat.le_of_not_lt c1)]
      rw [e3, e4]; exact this
  obtain ⟨fn, k1, k2, k3⟩ := hs.1
  have k2' : fn.name ≠ "runtime.NumGoroutine" := by simpa using k2
  have k3' : fn.body ≠ none := by intro e; simp [e] at k3
  have hrun : (execOp a.eval o).run P w = .ok (.enter f (xs.map a.eval ++ vs)) w := by
    simp [execOp, ho, resolve, Deferred.ofValue, e2, invoke, callFunc, k1, k2', k3']
  unfold Oper.wp
  rw [hrun]
  refine (hs.2 w0 Z0 ρ w _ H (by simp [q1]) hall).mono ?_
  rintro _ w' ⟨u, ρ', r, h', rfl, hQ', H', hv', up⟩
  exact hK r h' u w' ρ' hQ' H' hv' up
section
variable {P : Program} {T : TypeId → TI} {M : Hn} {t : Nat → PV} {h : HP} {cl : Oper → Cls} {ops : Array Oper} {l : List Oper} {K : AS → Prop} {d : Nat} {ty : TypeId} {pos : String} {aft : Array Edge}
end
/-! ### a region that draws its order, the last operation apart -/
structure LW (P : Program) (T : TypeId → TI) (n : Nat) (x : Oper) (s : AS) (K : AS → Prop) : Prop where
  out : TOk P T → ∀ E w0 Z0 ρ a w (Kw : Act → World → Prop) (Q : Exit → Act → World → Prop), Rel E w0 Z0 ρ n s a w → (∀ ρ' s' a' w', Rel E w0 Z0 ρ' n s' a' w' → K s' → Kw a' w') → x.wp P a w Kw Q
theorem LW.ope {P : Program} {T : TypeId → TI} {n d : Nat} {x : Oper} {s : AS} {K : AS → Prop} (hd : x.dst = some d) (hn : d < n) (h : TOk P T → OpE P x s (fun v h' => K ⟨upd s.tmps d v, h'⟩)) : LW P T n x s K :=
  ⟨fun hT E w0 Z0 ρ a w Kw Q R hK => h hT w0 Z0 ρ w a _ _ R.heap (fun y => R.ev y) (fun v h' u w' ρ' hQ' H' hv' up => by
    have R' := R.put (d := x.dst) H' up (fun y hy => by rw [hd] at hy; cases hy; exact hn) hv'
    rw [hd] at R' ⊢
    exact hK ρ' _ _ w' R' hQ')⟩
theorem LW.freeze {P : Program} {T : TypeId → TI} {n : Nat} {x : Oper} {t : Nat → PV} {h : HP} {K : AS → Prop} (d : Nat) {tk : Nat} {xs : List Int} (hd : t d = .ref tk 0 1 xs.length) (hb : h.blk tk = some (ints xs)) (hk : LW P T n x ⟨upd t d (pli xs), h.kill tk⟩ K) : LW P T n x ⟨t, h⟩ K := by
  refine ⟨fun hT E w0 Z0 ρ a w Kw Q R hK => ?_⟩
  have R' := R.freeze (d := d) hd hb (by simp)
  rw [show PV.lst false 1 xs.length (((ints xs).drop 0).take (xs.length * 1)) = pli xs by simp [ints_take, pli]] at R'
  exact hk.out hT E w0 Z0 ρ a w Kw Q R' hK
variable {P : Program} {E : PV → Value → Prop} {w0 : World} {Z0 : Nat → Prop} {n : Nat} {cl : Oper → Cls} {ops : Array Oper} {Q : Exit → Act → World → Prop}
end Go.Proofs.Ytdlpbpfcgjgppaa
