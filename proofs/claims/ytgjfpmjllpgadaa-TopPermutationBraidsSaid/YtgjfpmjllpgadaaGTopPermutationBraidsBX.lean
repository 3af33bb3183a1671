/- artin.Images. No condition of its own. -/
import Derived.Test.YtgjfpmjllpgadaaGTopPermutationBraidsBW
import Derived.Test.YtgjfpmjllpgadaaGTopPermutationBraidsBJ
import Derived.Test.YtgjfpmjllpgadaaGTopPermutationBraidsAX
import Derived.Test.YtgjfpmjllpgadaaGTopPermutationBraidsAA
set_option linter.unusedVariables false
set_option linter.unusedSimpArgs false
namespace Go.Proofs.Ytgjfpmjllpgadaa
open Go.RowKit Go.Shelf

def tabL (n : Nat) (G : Nat → List Int) : List (List Int) := (List.range n).map G
@[simp] theorem tabL_len (n : Nat) (G : Nat → List Int) : (tabL n G).length = n := by simp [tabL]
theorem tabL_get {n : Nat} {G : Nat → List Int} {i : Nat} (h : i < n) : (tabL n G).getD i [] = G i := by simp [tabL, List.getD, h]
theorem tabL_set {n : Nat} {G : Nat → List Int} {i : Nat} (y : List Int) : (tabL n G).set i y = tabL n (fun k => if k = i then y else G k) := by
  apply List.ext_getElem
  · simp
  · intro k h1 h2
    simp [tabL, List.getElem_set]
    by_cases c : i = k
    · rw [if_pos c, if_pos c.symm]
    · rw [if_neg c, if_neg (fun e => c e.symm)]
theorem tabL_succ (n : Nat) (G : Nat → List Int) : tabL (n + 1) G = tabL n G ++ [G n] := by simp [tabL, List.range_succ]
theorem tabL_congr {n : Nat} {G G' : Nat → List Int} (h : ∀ i, i < n → G i = G' i) : tabL n G = tabL n G' := List.map_congr_left (fun i hi => h i (List.mem_range.1 hi))
theorem nf_ints (xs : List Int) : PV.nf.nfL (ints xs) = true := nfL_mem.2 (fun c hc => by
  unfold ints at hc
  obtain ⟨x, _, rfl⟩ := List.mem_map.1 hc; rfl)
theorem nf_plt (xs : List Int) : (plt xs).nf = true := by simp [plt, PV.nf, nf_ints]
theorem nf_pli (xs : List Int) : (pli xs).nf = true := by simp [pli, PV.nf, nf_ints]
theorem nf_plts (l : List (List Int)) : PV.nf.nfL (l.map plt) = true := nfL_mem.2 (fun c hc => by
  obtain ⟨x, _, rfl⟩ := List.mem_map.1 hc; exact nf_plt x)
/-- the images so far, of the generators 1 .. n -/
def imgT (n : Nat) (v : List Int) : List (List Int) := tabL n (fun j => prg v ((j : Int) + 1))
theorem CellP.mk {T : TypeId → TI} {s : AS} {x t tk : Nat} {p : PV} (hx : s.tmps x = .ptr tk 0) (hb : s.hp.blk tk = some [p]) (ht : (T t).shape = some (false, 1)) : CellP T s x t p := ⟨tk, 0, [p], hx, hb, .inr ⟨ht, rfl⟩⟩
theorem FR.cell2 {T : TypeId → TI} {s : AS} {x t tk y t' tk' : Nat} {p q r : PV} (hx : s.tmps x = .ptr tk 0) (hb : s.hp.blk tk = some [p]) (ht : (T t).shape = some (false, 1)) (hy : s.tmps y = .ptr tk' 0) (hb' : s.hp.blk tk' = some [q]) (ht' : (T t').shape = some (false, 1)) (hf : Fz s.hp (.tup [p, q]) r) : FzRes T s [.cell x t, .cell y t'] r :=
  ⟨[p, q], ⟨_, _, rfl, CellP.mk hx hb ht, _, _, rfl, CellP.mk hy hb' ht', rfl⟩, hf⟩

theorem nf_set2 {h : HP} (H : h.Nf) {k : Nat} {cs ds : List PV} (hc : PV.nf.nfL cs = true) : ((h.set k ds).set k cs).Nf :=
  ⟨(fun t es e => by
    by_cases c : t = k
    · subst c; rw [HP.set_same] at e; cases e; exact hc
    · rw [HP.set_other _ _ c, HP.set_other _ _ c] at e; exact H.blk t es e), H.sp⟩
/-- where the walk stands when the letters vs have come -/
def ImI (N : Nat) (vs : List Int) (h : HP) : Prop := h.Nf ∧ 6 ≤ 2 * h.next ∧ h.blk 1 = some [.lst true 0 0 []] ∧ h.blk 3 = some [pint 0] ∧ ∃ t, t % 2 = 0 ∧ t < 2 * h.next ∧ h.blk 5 = some [.ref t 0 1 N] ∧ h.blk t = some ((imgT N vs.reverse).map plt)

set_option maxHeartbeats 4000000 in
set_option maxRecDepth 100000 in
theorem backward_s (w : List Int) : SC Try.prog 117 [pli w] (.clo 140 [.lptr [pli w]]) := by
  refine SC.go {} tok mixed Try.func117 rfl rfl Try.ntmps117 rfl rfl (by kernel_rfl) ?_
  first | simp only [updS] | simp only [updL, Nat.reduceAdd]
  repeat (first | refine S0 ?_ | refine S1 ?_ | refine S2 ?_ | refine S3 ?_ | refine S4 ?_ | refine S5 ?_ | refine S6 ?_ | refine S7 ?_ | refine S8 ?_ | refine S9 ?_ | refine S10 ?_ | refine S11 ?_ | refine S13 ?_ | refine S15 ?_ | refine S16 ?_ | refine S19 ?_ | refine S20 ?_ | refine S21 ?_ | refine S22 ?_ | refine S23 ?_ | refine S27 ?_ | refine S29 ?_ | refine S30 ?_ | refine S33 ?_ | refine S46 ?_ | refine S49 ?_ | refine S54 ?_ | refine S56 ?_ | refine S64 ?_ | refine S65 ?_ | refine S68 ?_ | refine S74 ?_)
  exact ⟨.inr rfl, (show Fz _ (.clo 140 [.lptr [pli w]]) _ from .cl (by simp only [PV.cl, PV.cl.clL, pli_cl]; rfl))⟩
set_option maxHeartbeats 8000000 in
set_option maxRecDepth 100000 in
theorem images_ok {N : Nat} {w : List Int} (h : bF N w = 0) (hl : w.length ≤ 10) : SC Try.prog 139 [pint N, pli w] (.tup [.lst false 1 N ((imgT N w).map pli), pint 0]) := by
  have k1 := bcheck_s N w
  rw [h] at k1
  obtain ⟨hn, _, hw⟩ := bF_ok h
  refine SC.ofM Try.func139 rfl rfl rfl (fun w0 Z0 a R => ?_)
  refine CW.wseq {} rfl (by kernel_rfl) R (N := fun s' => ∃ _ : Unit, allS [(0, pint N), (1, pli w), (4, .ptr 1 0), (5, .ptr 3 0)] s'.tmps ∧ (s'.hp.Nf ∧ s'.hp.next = 2 ∧ s'.hp.blk 1 = some [.lst true 0 0 []] ∧ s'.hp.blk 3 = some [pint 0])) ?_ ?_
  · first | simp only [updS] | simp only [updL, Nat.reduceAdd]
    repeat (first | refine S0 ?_ | refine S1 ?_ | refine S2 ?_ | refine S3 ?_ | refine S4 ?_ | refine S5 ?_ | refine S6 ?_ | refine S7 ?_ | refine S8 ?_ | refine S9 ?_ | refine S10 ?_ | refine S11 ?_ | refine S13 ?_ | refine S15 ?_ | refine S16 ?_ | refine S19 ?_ | refine S20 ?_ | refine S21 ?_ | refine S22 ?_ | refine S23 ?_ | refine S27 ?_ | refine S29 ?_ | refine S30 ?_ | refine S33 ?_ | refine S46 ?_ | refine S49 ?_ | refine S54 ?_ | refine S56 ?_ | refine S64 ?_ | refine S65 ?_ | refine S68 ?_ | refine S74 ?_)
    exact ⟨rfl, (), SLx, (nf_H0.add _ rfl).add _ rfl, rfl, HBx, HBx⟩
  clear R
  rintro ρ ⟨t, hp⟩ a w1 R ⟨_, hs, hN, hx, hb1, hb3⟩
  simp only at hs hN hx hb1 hb3
  rw [← updS_eta _ t hs] at R
  refine CW.wseq {} rfl (by kernel_rfl) R (N := fun s' => ∃ _ : Unit, allS [(0, pint N), (1, pli w), (4, .ptr 1 0), (5, .ptr 3 0)] s'.tmps ∧ (s'.hp.Nf ∧ s'.hp.next = 2 ∧ s'.hp.blk 1 = some [.lst true 0 0 []] ∧ s'.hp.blk 3 = some [pint 0])) ?_ ?_
  · first | simp only [updS] | simp only [updL, Nat.reduceAdd]
    repeat (first | refine S0 ?_ | refine S1 ?_ | refine S2 ?_ | refine S3 ?_ | refine S4 ?_ | refine S5 ?_ | refine S6 ?_ | refine S7 ?_ | refine S8 ?_ | refine S9 ?_ | refine S10 ?_ | refine S11 ?_ | refine S13 ?_ | refine S15 ?_ | refine S16 ?_ | refine S19 ?_ | refine S20 ?_ | refine S21 ?_ | refine S22 ?_ | refine S23 ?_ | refine S27 ?_ | refine S29 ?_ | refine S30 ?_ | refine S33 ?_ | refine S46 ?_ | refine S49 ?_ | refine S54 ?_ | refine S56 ?_ | refine S64 ?_ | refine S65 ?_ | refine S68 ?_ | refine S74 ?_)
    refine Scall (args := [pint N, pli w]) k1 ?_
    repeat (first | refine S0 ?_ | refine S1 ?_ | refine S2 ?_ | refine S3 ?_ | refine S4 ?_ | refine S5 ?_ | refine S6 ?_ | refine S7 ?_ | refine S8 ?_ | refine S9 ?_ | refine S10 ?_ | refine S11 ?_ | refine S13 ?_ | refine S15 ?_ | refine S16 ?_ | refine S19 ?_ | refine S20 ?_ | refine S21 ?_ | refine S22 ?_ | refine S23 ?_ | refine S27 ?_ | refine S29 ?_ | refine S30 ?_ | refine S33 ?_ | refine S46 ?_ | refine S49 ?_ | refine S54 ?_ | refine S56 ?_ | refine S64 ?_ | refine S65 ?_ | refine S68 ?_ | refine S74 ?_)
    exact ⟨rfl, (), SLx, hN, hx, hb1, hb3⟩
  clear R hs hN hx hb1 hb3
  rintro ρ ⟨t, hp⟩ a w2 R ⟨_, hs, hN, hx, hb1, hb3⟩
  simp only at hs hN hx hb1 hb3
  rw [← updS_eta _ t hs] at R
  refine CW.wseq {} rfl (by kernel_rfl) R (N := fun s' => ∃ _ : Unit, allS [(0, pint N), (1, pli w), (4, .ptr 1 0), (5, .ptr 3 0), (7, .ptr 5 0)] s'.tmps ∧ (s'.hp.Nf ∧ s'.hp.next = 3 ∧ s'.hp.blk 1 = some [.lst true 0 0 []] ∧ s'.hp.blk 3 = some [pint 0] ∧ s'.hp.blk 5 = some [.lst true 0 0 []])) ?_ ?_
  · have e5 : hp.tok true = 5 := by simp [HP.tok, hx]
    first | simp only [updS] | simp only [updL, Nat.reduceAdd]
    repeat (first | refine S0 ?_ | refine S1 ?_ | refine S2 ?_ | refine S3 ?_ | refine S4 ?_ | refine S5 ?_ | refine S6 ?_ | refine S7 ?_ | refine S8 ?_ | refine S9 ?_ | refine S10 ?_ | refine S11 ?_ | refine S13 ?_ | refine S15 ?_ | refine S16 ?_ | refine S19 ?_ | refine S20 ?_ | refine S21 ?_ | refine S22 ?_ | refine S23 ?_ | refine S27 ?_ | refine S29 ?_ | refine S30 ?_ | refine S33 ?_ | refine S46 ?_ | refine S49 ?_ | refine S54 ?_ | refine S56 ?_ | refine S64 ?_ | refine S65 ?_ | refine S68 ?_ | refine S74 ?_)
    rw [e5]
    refine ⟨rfl, (), SLx, hN.add _ rfl, by show hp.next + 1 = 3; omega, ?_, ?_, ?_⟩
    · show (hp.add true _).blk 1 = _
      rw [HP.add_other _ _ _ (by rw [e5]; decide)]; exact hb1
    · show (hp.add true _).blk 3 = _
      rw [HP.add_other _ _ _ (by rw [e5]; decide)]; exact hb3
    · show (hp.add true _).blk 5 = _
      rw [← e5]; exact HP.add_same _ _ _
  clear R hs hN hx hb1 hb3
  rintro ρ ⟨t, hp⟩ a w3 R ⟨_, hs, hN, hx, hb1, hb3, hb5⟩
  simp only at hs hN hx hb1 hb3 hb5
  rw [← updS_eta _ t hs] at R
  refine CW.wseq {} rfl (by kernel_rfl) R (N := fun s' => ∃ _ : Unit, allS [(0, pint N), (1, pli w), (4, .ptr 1 0), (5, .ptr 3 0), (7, .ptr 5 0)] s'.tmps ∧ ImI N [] s'.hp) ?_ ?_
  · first | simp only [updS] | simp only [updL, Nat.reduceAdd]
    repeat (first | refine S0 ?_ | refine S1 ?_ | refine S2 ?_ | refine S3 ?_ | refine S4 ?_ | refine S5 ?_ | refine S6 ?_ | refine S7 ?_ | refine S8 ?_ | refine S9 ?_ | refine S10 ?_ | refine S11 ?_ | refine S13 ?_ | refine S15 ?_ | refine S16 ?_ | refine S19 ?_ | refine S20 ?_ | refine S21 ?_ | refine S22 ?_ | refine S23 ?_ | refine S27 ?_ | refine S29 ?_ | refine S30 ?_ | refine S33 ?_ | refine S46 ?_ | refine S49 ?_ | refine S54 ?_ | refine S56 ?_ | refine S64 ?_ | refine S65 ?_ | refine S68 ?_ | refine S74 ?_)
    refine CW.loopS (fun i : Nat × Nat => i.1 ≤ N ∧ i.2 % 2 = 0) (fun i => [(0, pint N), (1, pli w), (4, .ptr 1 0), (5, .ptr 3 0), (7, .ptr 5 0), (20, pint N), (21, pint i.1)])
      (fun i h => h.Nf ∧ 3 ≤ h.next ∧ h.blk 1 = some [.lst true 0 0 []] ∧ h.blk 3 = some [pint 0] ∧ ((i.1 = 0 ∧ h.blk 5 = some [.lst true 0 0 []]) ∨ (0 < i.1 ∧ i.2 < 2 * h.next ∧ h.blk 5 = some [.ref i.2 0 1 i.1] ∧ h.blk i.2 = some ((tabL i.1 (fun j => [(j : Int) + 1])).map plt))))
      (fun i => N - i.1) (0, 0) ⟨⟨Nat.zero_le _, rfl⟩, SLx, hN, by show 3 ≤ hp.next; omega, hb1, hb3, .inl ⟨rfl, hb5⟩⟩ ?_
    clear R hs hN hx hb1 hb3 hb5 t hp
    rintro ⟨k, b⟩ t hp ⟨hk, hb⟩ ⟨hN, hx, hb1, hb3, h5⟩
    simp only at hk hb h5
    first | simp only [updS] | simp only [updL, Nat.reduceAdd]
    by_cases hlt : k < N
    · rcases h5 with ⟨rfl, h5⟩ | ⟨hk0, hbx, h5, h6⟩
      · repeat (first | refine S0 ?_ | refine S1 ?_ | refine S2 ?_ | refine S3 ?_ | refine S4 ?_ | refine S5 ?_ | refine S6 ?_ | refine S7 ?_ | refine S8 ?_ | refine S9 ?_ | refine S10 ?_ | refine S11 ?_ | refine S13 ?_ | refine S15 ?_ | refine S16 ?_ | refine S19 ?_ | refine S20 ?_ | refine S21 ?_ | refine S22 ?_ | refine S23 ?_ | refine S27 ?_ | refine S29 ?_ | refine S30 ?_ | refine S33 ?_ | refine S46 ?_ | refine S49 ?_ | refine S54 ?_ | refine S56 ?_ | refine S64 ?_ | refine S65 ?_ | refine S68 ?_ | refine S74 ?_)
        refine ⟨(1, hp.tok false), ⟨by simp only; omega, HP.tok_even _⟩, SLx, ⟨(hN.add _ rfl).set _ rfl, by show 3 ≤ hp.next + 1; omega, HBx, HBx, .inr ⟨by simp only; omega, ?_, HBx, HBx⟩⟩, by simp only; omega⟩
        show hp.tok false < 2 * (hp.next + 1)
        have := (HP.tok_ge hp false).2
        omega
      · repeat (first | refine S0 ?_ | refine S1 ?_ | refine S2 ?_ | refine S3 ?_ | refine S4 ?_ | refine S5 ?_ | refine S6 ?_ | refine S7 ?_ | refine S8 ?_ | refine S9 ?_ | refine S10 ?_ | refine S11 ?_ | refine S13 ?_ | refine S15 ?_ | refine S16 ?_ | refine S19 ?_ | refine S20 ?_ | refine S21 ?_ | refine S22 ?_ | refine S23 ?_ | refine S27 ?_ | refine S29 ?_ | refine S30 ?_ | refine S33 ?_ | refine S46 ?_ | refine S49 ?_ | refine S54 ?_ | refine S56 ?_ | refine S64 ?_ | refine S65 ?_ | refine S68 ?_ | refine S74 ?_)
        refine AW.app (r := (tabL (k + 1) (fun j => [(j : Int) + 1])).map plt) (by simp only [evA, upd, putA, ofConst, ofConst.ofCell, Nat.reduceEqDiff, ↓reduceIte, List.map_cons, List.map_nil, List.toList_toArray]; first | done | rfl) (by first | exact Or.inl rfl | exact Or.inr ⟨rfl, HP.tok_even _⟩ | exact Or.inr (Or.inl ⟨rfl, HP.tok_even _⟩) | exact Or.inr (Or.inr ⟨rfl, HP.tok_odd _⟩) | exact Or.inr (Or.inl rfl) | exact Or.inr (Or.inr (Or.inl rfl)) | exact Or.inr (Or.inr (Or.inr (Or.inl ⟨rfl, HP.tok_odd _⟩))) | exact Or.inr (Or.inr (Or.inr (Or.inr ⟨rfl, HP.tok_even _⟩))) | exact Or.inr (Or.inr (Or.inr (Or.inr ⟨rfl, by assumption⟩))) | exact Or.inr ⟨rfl, by assumption⟩ | exact Or.inr (Or.inl ⟨rfl, by assumption⟩) | exact Or.inr (Or.inr ⟨rfl, by assumption⟩) | exact Or.inr (Or.inr (Or.inr (Or.inl ⟨rfl, by assumption⟩))) | exact Or.inr (Or.inr (Or.inl ⟨rfl, HP.tok_odd _⟩)) | exact Or.inr (Or.inr (Or.inl ⟨rfl, by assumption⟩)) | exact Or.inr (Or.inr (Or.inr rfl)) | exact Or.inr (Or.inr rfl) | exact Or.inr rfl) rfl HBx (by first | exact ⟨rfl, rfl, .inr rfl⟩ | exact ⟨rfl, rfl, .inl rfl⟩ | (simp only [evA, upd, putA, Nat.reduceEqDiff, ↓reduceIte]; first | exact ⟨rfl, rfl, .inr rfl⟩ | exact ⟨rfl, rfl, .inl rfl⟩)) (by simp) (by first | exact ints_ones _ | (intro p hp; simp only [List.mem_singleton] at hp; subst hp; rfl) | (intro p hp; simp at hp; subst hp; rfl)) (by first | omega | (simp only [ints_length, bls_length, List.length_map, List.length_append, List.length_set, List.length_cons, List.length_nil, Int.toNat_natCast]; omega)) ?_ (by first | (simp only [Nat.zero_add, Nat.add_zero, List.length_cons, List.length_nil, Nat.reduceAdd]; first | done | rfl) | rfl) ?_
        · show (((tabL k fun j => [(j : Int) + 1]).map plt).drop 0).take (k * 1) ++ [plt [(k : Int) + 1]] = _
          rw [app_map (by simp), tabL_succ]
        repeat (first | refine S0 ?_ | refine S1 ?_ | refine S2 ?_ | refine S3 ?_ | refine S4 ?_ | refine S5 ?_ | refine S6 ?_ | refine S7 ?_ | refine S8 ?_ | refine S9 ?_ | refine S10 ?_ | refine S11 ?_ | refine S13 ?_ | refine S15 ?_ | refine S16 ?_ | refine S19 ?_ | refine S20 ?_ | refine S21 ?_ | refine S22 ?_ | refine S23 ?_ | refine S27 ?_ | refine S29 ?_ | refine S30 ?_ | refine S33 ?_ | refine S46 ?_ | refine S49 ?_ | refine S54 ?_ | refine S56 ?_ | refine S64 ?_ | refine S65 ?_ | refine S68 ?_ | refine S74 ?_)
        refine ⟨(k + 1, hp.tok false), ⟨by simp only; omega, HP.tok_even _⟩, SLx, ⟨((hN.kill _).add _ (nf_plts _)).set _ rfl, by show 3 ≤ hp.next + 1; omega, HBx, HBx, .inr ⟨by simp only; omega, ?_, HBx, HBx⟩⟩, by simp only; omega⟩
        show hp.tok false < 2 * (hp.next + 1)
        have := (HP.tok_ge hp false).2
        omega
    · obtain rfl : k = N := by omega
      rcases h5 with ⟨e, _⟩ | ⟨hk0, hbx, h5, h6⟩
      · omega
      repeat (first | refine S0 ?_ | refine S1 ?_ | refine S2 ?_ | refine S3 ?_ | refine S4 ?_ | refine S5 ?_ | refine S6 ?_ | refine S7 ?_ | refine S8 ?_ | refine S9 ?_ | refine S10 ?_ | refine S11 ?_ | refine S13 ?_ | refine S15 ?_ | refine S16 ?_ | refine S19 ?_ | refine S20 ?_ | refine S21 ?_ | refine S22 ?_ | refine S23 ?_ | refine S27 ?_ | refine S29 ?_ | refine S30 ?_ | refine S33 ?_ | refine S46 ?_ | refine S49 ?_ | refine S54 ?_ | refine S56 ?_ | refine S64 ?_ | refine S65 ?_ | refine S68 ?_ | refine S74 ?_)
      refine ⟨rfl, (), SLx, hN, by show 6 ≤ 2 * hp.next; omega, hb1, hb3, b, hb, hbx, h5, ?_⟩
      rw [h6]; rfl
  clear R hs hN hx hb1 hb3 hb5
  rintro ρ ⟨t, hp⟩ a w4 R ⟨_, hs, hI⟩
  simp only at hs hI
  rw [← updS_eta _ t hs] at R
  refine wpIn_seq ?_
  refine CW.wseq {} rfl (by kernel_rfl) R (N := fun s' => ∃ _ : Unit, allS [(0, pint N), (1, pli w), (4, .ptr 1 0), (5, .ptr 3 0), (7, .ptr 5 0), (32, .clo 140 [.lptr [pli w]])] s'.tmps ∧ ImI N [] s'.hp) ?_ ?_
  · have kb := backward_s w
    first | simp only [updS] | simp only [updL, Nat.reduceAdd]
    repeat (first | refine S0 ?_ | refine S1 ?_ | refine S2 ?_ | refine S3 ?_ | refine S4 ?_ | refine S5 ?_ | refine S6 ?_ | refine S7 ?_ | refine S8 ?_ | refine S9 ?_ | refine S10 ?_ | refine S11 ?_ | refine S13 ?_ | refine S15 ?_ | refine S16 ?_ | refine S19 ?_ | refine S20 ?_ | refine S21 ?_ | refine S22 ?_ | refine S23 ?_ | refine S27 ?_ | refine S29 ?_ | refine S30 ?_ | refine S33 ?_ | refine S46 ?_ | refine S49 ?_ | refine S54 ?_ | refine S56 ?_ | refine S64 ?_ | refine S65 ?_ | refine S68 ?_ | refine S74 ?_)
    refine Scall (args := [pli w]) kb ?_
    repeat (first | refine S0 ?_ | refine S1 ?_ | refine S2 ?_ | refine S3 ?_ | refine S4 ?_ | refine S5 ?_ | refine S6 ?_ | refine S7 ?_ | refine S8 ?_ | refine S9 ?_ | refine S10 ?_ | refine S11 ?_ | refine S13 ?_ | refine S15 ?_ | refine S16 ?_ | refine S19 ?_ | refine S20 ?_ | refine S21 ?_ | refine S22 ?_ | refine S23 ?_ | refine S27 ?_ | refine S29 ?_ | refine S30 ?_ | refine S33 ?_ | refine S46 ?_ | refine S49 ?_ | refine S54 ?_ | refine S56 ?_ | refine S64 ?_ | refine S65 ?_ | refine S68 ?_ | refine S74 ?_)
    exact ⟨rfl, (), SLx, hI⟩
  clear R hs hI
  rintro ρ ⟨t, hp⟩ a w5 R ⟨_, hs, hI⟩
  simp only at hs hI
  have R := R.forget hs
  refine wpIn_block ?_
  refine range_back (M := { rb := [48, 51, 62, 65], ss := [60, 61, 74, 75] }) (Pr := letP N) (gs := 32) (zs := w) R rfl rfl (nfS_upd (by simp [nfS, PV.nf, PV.nf.nfL, nf_pli, pint])) (by omega) hw (ImI N) hI (fun vs h hi => hi.1)
    (fun x => ((a.put (some 33) (.int .i64 x.1)).put (some 34) (.int .i64 x.2)).put (some 10) (.int .i64 x.2)) (fun x => upd (upd (upd (updS [(0, pint N), (1, pli w), (4, .ptr 1 0), (5, .ptr 3 0), (7, .ptr 5 0), (32, .clo 140 [.lptr [pli w]])] jk) 33 (pint x.1)) 34 (pint x.2)) 10 (pint x.2)) ?ha ?has (by kernel_rfl) ?hb ?hd
  case ha =>
    intro x W ρ' h R'
    have R1 := R'.put (d := some 33) (v := pint x.1) (u := .int .i64 x.1) R'.heap (fun _ _ h => h) (fun y hy => by cases hy; decide) (.sc _)
    have R2 := R1.put (d := some 34) (v := pint x.2) (u := .int .i64 x.2) R1.heap (fun _ _ h => h) (fun y hy => by cases hy; decide) (.sc _)
    exact R2.put (d := some 10) (v := pint x.2) (u := .int .i64 x.2) R2.heap (fun _ _ h => h) (fun y hy => by cases hy; decide) (.sc _)
  case has =>
    intro l x W K hK
    have hsz : a.tmps.size = 90 := R.size
    have hdf := R.defers
    obtain ⟨tm, df⟩ := a
    simp only at hsz hdf
    subst hdf
    refine wpIn_region_lit (wpListIn_plain rfl (fun K' hK' => op_in (okf_round l) (fun _ hh => by cases hh) (wp_val (u := .int .i64 x.2) (w' := W) ?_ (hK' _ _ ?_))))
    · simp [execOp, Act.eval, hsz]
    · refine wpListIn_nil ?_
      show K _ W
      have h2 := hK
      simp only [Act.put] at h2 ⊢
      simpa using h2
  case hb =>
    rintro vs ⟨xi, x⟩ hp hvs hx hlen ⟨hN, hx6, hb1, hb3, b, hbe, hbl, h5, h6⟩
    simp only at hx
    have hxl := abs_let hx hn.2
    obtain ⟨m, hm1, hm2⟩ : ∃ m : Nat, absI x = (m : Int) + 1 ∧ m + 1 < N := ⟨(absI x - 1).toNat, by omega, by omega⟩
    have ki := bindex_s x (by omega)
    rw [hm1] at ki
    have h51 : 5 % 2 = 1 := rfl
    have hlt : ((m : Int) + 1 - 1).toNat = m := by omega
    have hlt2 : ((m : Int) + 1).toNat = m + 1 := by omega
    have hga : (imgT N vs.reverse).getD m [] = prg vs.reverse ((m : Int) + 1) := tabL_get (by omega)
    have hgb : (imgT N vs.reverse).getD (m + 1) [] = prg vs.reverse ((m : Int) + 1 + 1) := tabL_get (by omega)
    have hIl : (imgT N vs.reverse).length = N := tabL_len _ _
    obtain ⟨L, hL⟩ : ∃ L, L = imgT N vs.reverse := ⟨_, rfl⟩
    rw [← hL] at h6 hga hgb hIl
    first | simp only [updS] | simp only [updL, Nat.reduceAdd]
    repeat (first | refine S0 ?_ | refine S1 ?_ | refine S2 ?_ | refine S3 ?_ | refine S4 ?_ | refine S5 ?_ | refine S6 ?_ | refine S7 ?_ | refine S8 ?_ | refine S9 ?_ | refine S10 ?_ | refine S11 ?_ | refine S13 ?_ | refine S15 ?_ | refine S16 ?_ | refine S19 ?_ | refine S20 ?_ | refine S21 ?_ | refine S22 ?_ | refine S23 ?_ | refine S27 ?_ | refine S29 ?_ | refine S30 ?_ | refine S33 ?_ | refine S46 ?_ | refine S49 ?_ | refine S54 ?_ | refine S56 ?_ | refine S64 ?_ | refine S65 ?_ | refine S68 ?_ | refine S74 ?_)
    refine Scall (args := [pint x]) ki ?_
    repeat (first | refine S0 ?_ | refine S1 ?_ | refine S2 ?_ | refine S3 ?_ | refine S4 ?_ | refine S5 ?_ | refine S6 ?_ | refine S7 ?_ | refine S8 ?_ | refine S9 ?_ | refine S10 ?_ | refine S11 ?_ | refine S13 ?_ | refine S15 ?_ | refine S16 ?_ | refine S19 ?_ | refine S20 ?_ | refine S21 ?_ | refine S22 ?_ | refine S23 ?_ | refine S27 ?_ | refine S29 ?_ | refine S30 ?_ | refine S33 ?_ | refine S46 ?_ | refine S49 ?_ | refine S54 ?_ | refine S56 ?_ | refine S64 ?_ | refine S65 ?_ | refine S68 ?_ | refine S74 ?_)
    rw [hlt, hlt2, hga, hgb]
    have hbr : brd (N : Int) vs.reverse := fun y hy => hvs y (List.mem_reverse.1 hy)
    have hinr : ∀ j : Int, 1 ≤ j ∧ j ≤ N → inr N (prg vs.reverse j) ∧ (prg vs.reverse j).length ≤ 2000 := fun j hj => by
      rw [← img_one hbr hj]
      have h1 := img_len (n := N) (w := vs.reverse) (u := [j]) hbr
      rw [List.length_reverse] at h1
      have h2 : 2 ^ vs.length ≤ 2 ^ 9 := Nat.pow_le_pow_right (by decide) (by omega)
      refine ⟨inr_img hbr (inr_one hj), ?_⟩
      simp only [List.length_cons, List.length_nil, Nat.zero_add, Nat.reduceAdd] at h1
      have h3 : 2 ^ vs.length * 2 ≤ 2 ^ 9 * 2 := Nat.mul_le_mul_right 2 h2
      omega
    obtain ⟨hA1, hA2⟩ := hinr ((m : Int) + 1) (by omega)
    obtain ⟨hB1, hB2⟩ := hinr ((m : Int) + 1 + 1) (by omega)
    obtain ⟨A, hA⟩ : ∃ A, A = prg vs.reverse ((m : Int) + 1) := ⟨_, rfl⟩
    obtain ⟨B, hB⟩ : ∃ B, B = prg vs.reverse ((m : Int) + 1 + 1) := ⟨_, rfl⟩
    rw [← hA] at hA1 hA2 hga ⊢
    rw [← hB] at hB1 hB2 hgb ⊢
    have bd : ∀ {u : List Int}, inr N u → ∀ k, k < u.length → -1000 ≤ u.getD k 0 ∧ u.getD k 0 ≤ 1000 := fun {u} hu k hk => by
      have := hu (u.getD k 0) (by rw [getD_lt 0 hk]; exact List.getElem_mem hk)
      omega
    have bd2 : ∀ {u : List Int}, inr N u → ∀ y ∈ u, -9223372036854775807 ≤ y ∧ y ≤ 9223372036854775807 := fun {u} hu y hy => by
      have := hu y hy
      omega
    have himg : ∀ y, letP N y → ((imgT N (y :: vs.reverse)).getD m []).length ≤ 3000 ∧ ((imgT N (y :: vs.reverse)).getD (m + 1) []).length ≤ 3000 ∧ (imgT N (y :: vs.reverse)).length = N := fun y hy => by
      have hbr2 : brd (N : Int) (y :: vs.reverse) := fun z hz => by
        rcases List.mem_cons.1 hz with rfl | hz
        · exact hy
        · exact hbr z hz
      have key : ∀ j : Int, 1 ≤ j ∧ j ≤ N → (prg (y :: vs.reverse) j).length ≤ 3000 := fun j hj => by
        rw [← img_one hbr2 hj]
        have h1 := img_len (n := N) (w := y :: vs.reverse) (u := [j]) hbr2
        rw [List.length_cons, List.length_reverse] at h1
        have h2 : 2 ^ (vs.length + 1) ≤ 2 ^ 10 := Nat.pow_le_pow_right (by decide) (by omega)
        simp only [List.length_cons, List.length_nil, Nat.zero_add, Nat.reduceAdd] at h1
        have h3 : 2 ^ (vs.length + 1) * 2 ≤ 2 ^ 10 * 2 := Nat.mul_le_mul_right 2 h2
        omega
      refine ⟨?_, ?_, tabL_len _ _⟩
      · rw [show (imgT N (y :: vs.reverse)).getD m [] = prg (y :: vs.reverse) ((m : Int) + 1) from tabL_get (by omega)]
        exact key _ (by omega)
      · rw [show (imgT N (y :: vs.reverse)).getD (m + 1) [] = prg (y :: vs.reverse) (((m + 1 : Nat) : Int) + 1) from tabL_get (by omega)]
        exact key _ (by omega)
    by_cases hx0 : 0 < x
    · obtain rfl : x = (m : Int) + 1 := by omega
      have kv : SC Try.prog 70 [plt A] (plt (invL A)) := SC.weak (inverted_s (bd2 hA1) (by omega)) rfl
      have kr := reduced_s (cs := [(true, A), (true, B), (true, invL A)]) (by simp) (by simp [flat, invL]; omega) (by
        intro p hp
        simp only [List.mem_cons, List.not_mem_nil, or_false] at hp
        rcases hp with rfl | rfl | rfl
        · exact bd hA1
        · exact bd hB1
        · exact bd (inr_inv hA1))
      have hfl : flat [(true, A), (true, B), (true, invL A)] = A ++ (B ++ invW A) := by simp [flat]; rfl
      rw [hfl] at kr
      repeat (first | refine S0 ?_ | refine S1 ?_ | refine S2 ?_ | refine S3 ?_ | refine S4 ?_ | refine S5 ?_ | refine S6 ?_ | refine S7 ?_ | refine S8 ?_ | refine S9 ?_ | refine S10 ?_ | refine S11 ?_ | refine S13 ?_ | refine S15 ?_ | refine S16 ?_ | refine S19 ?_ | refine S20 ?_ | refine S21 ?_ | refine S22 ?_ | refine S23 ?_ | refine S27 ?_ | refine S29 ?_ | refine S30 ?_ | refine S33 ?_ | refine S46 ?_ | refine S49 ?_ | refine S54 ?_ | refine S56 ?_ | refine S64 ?_ | refine S65 ?_ | refine S68 ?_ | refine S74 ?_)
      refine Scall (args := [plt A]) kv ?_
      repeat (first | refine S0 ?_ | refine S1 ?_ | refine S2 ?_ | refine S3 ?_ | refine S4 ?_ | refine S5 ?_ | refine S6 ?_ | refine S7 ?_ | refine S8 ?_ | refine S9 ?_ | refine S10 ?_ | refine S11 ?_ | refine S13 ?_ | refine S15 ?_ | refine S16 ?_ | refine S19 ?_ | refine S20 ?_ | refine S21 ?_ | refine S22 ?_ | refine S23 ?_ | refine S27 ?_ | refine S29 ?_ | refine S30 ?_ | refine S33 ?_ | refine S46 ?_ | refine S49 ?_ | refine S54 ?_ | refine S56 ?_ | refine S64 ?_ | refine S65 ?_ | refine S68 ?_ | refine S74 ?_)
      refine Scall (args := [.lst true 1 3 ([(true, A), (true, B), (true, invL A)].map pcl)]) kr ?_ (hc := by simp [pcl, PV.cl.clL, PV.cl, ints_cl])
      repeat (first | refine S0 ?_ | refine S1 ?_ | refine S2 ?_ | refine S3 ?_ | refine S4 ?_ | refine S5 ?_ | refine S6 ?_ | refine S7 ?_ | refine S8 ?_ | refine S9 ?_ | refine S10 ?_ | refine S11 ?_ | refine S13 ?_ | refine S15 ?_ | refine S16 ?_ | refine S19 ?_ | refine S20 ?_ | refine S21 ?_ | refine S22 ?_ | refine S23 ?_ | refine S27 ?_ | refine S29 ?_ | refine S30 ?_ | refine S33 ?_ | refine S46 ?_ | refine S49 ?_ | refine S54 ?_ | refine S56 ?_ | refine S64 ?_ | refine S65 ?_ | refine S68 ?_ | refine S74 ?_)
      rw [hlt, hlt2]
      have hS : ((L.map plt).set m (.lst true 1 (red (A ++ (B ++ invW A))).length (ints (red (A ++ (B ++ invW A)))))).set (m + 1) (plt A) = (imgT N (((m : Int) + 1) :: vs.reverse)).map plt := by
        show ((L.map plt).set m (plt (red (A ++ (B ++ invW A))))).set (m + 1) (plt A) = _
        rw [← List.map_set, ← List.map_set, hL]
        unfold imgT
        rw [tabL_set, tabL_set]
        congr 1
        refine tabL_congr (fun i hi => ?_)
        conv => rhs; unfold prg
        rw [if_pos hx0, hA, hB]
        by_cases e1 : i = m + 1
        · rw [if_pos e1, if_neg (by omega), if_pos (by omega)]
        · rw [if_neg e1]
          by_cases e2 : i = m
          · rw [if_pos e2, if_pos (by omega)]
          · rw [if_neg e2, if_neg (by omega), if_neg (by omega)]
      rw [hS]
      obtain ⟨b1, b2, hIl2⟩ := himg ((m : Int) + 1) hx
      obtain ⟨L2, hL2⟩ : ∃ L2, L2 = imgT N (((m : Int) + 1) :: vs.reverse) := ⟨_, rfl⟩
      rw [← hL2] at b1 b2 hIl2 ⊢
      have hdf : decide ((3000 : Int) < if ((L2.getD m []).length : Int) < ((L2.getD (m + 1) []).length : Int) then ((L2.getD (m + 1) []).length : Int) else ((L2.getD m []).length : Int)) = false := by
        apply decide_eq_false
        split <;> omega
      have hrev : (vs ++ [(m : Int) + 1]).reverse = ((m : Int) + 1) :: vs.reverse := by simp
      repeat (first | refine S0 ?_ | refine S1 ?_ | refine S2 ?_ | refine S3 ?_ | refine S4 ?_ | refine S5 ?_ | refine S6 ?_ | refine S7 ?_ | refine S8 ?_ | refine S9 ?_ | refine S10 ?_ | refine S11 ?_ | refine S13 ?_ | refine S15 ?_ | refine S16 ?_ | refine S19 ?_ | refine S20 ?_ | refine S21 ?_ | refine S22 ?_ | refine S23 ?_ | refine S27 ?_ | refine S29 ?_ | refine S30 ?_ | refine S33 ?_ | refine S46 ?_ | refine S49 ?_ | refine S54 ?_ | refine S56 ?_ | refine S64 ?_ | refine S65 ?_ | refine S68 ?_ | refine S74 ?_)
      rw [hlt2, hdf]
      repeat (first | refine S0 ?_ | refine S1 ?_ | refine S2 ?_ | refine S3 ?_ | refine S4 ?_ | refine S5 ?_ | refine S6 ?_ | refine S7 ?_ | refine S8 ?_ | refine S9 ?_ | refine S10 ?_ | refine S11 ?_ | refine S13 ?_ | refine S15 ?_ | refine S16 ?_ | refine S19 ?_ | refine S20 ?_ | refine S21 ?_ | refine S22 ?_ | refine S23 ?_ | refine S27 ?_ | refine S29 ?_ | refine S30 ?_ | refine S33 ?_ | refine S46 ?_ | refine S49 ?_ | refine S54 ?_ | refine S56 ?_ | refine S64 ?_ | refine S65 ?_ | refine S68 ?_ | refine S74 ?_)
      refine ⟨rfl, nf_set2 hN (nf_plts _), hx6, HBx, HBx, b, hbe, hbl, HBx, ?_⟩
      rw [hrev, ← hL2]
      exact HP.set_same _ _ _
    · obtain rfl : x = -((m : Int) + 1) := by omega
      have kv : SC Try.prog 70 [plt B] (plt (invL B)) := SC.weak (inverted_s (bd2 hB1) (by omega)) rfl
      have kr := reduced_s (cs := [(true, invL B), (true, A), (true, B)]) (by simp) (by simp [flat, invL]; omega) (by
        intro p hp
        simp only [List.mem_cons, List.not_mem_nil, or_false] at hp
        rcases hp with rfl | rfl | rfl
        · exact bd (inr_inv hB1)
        · exact bd hA1
        · exact bd hB1)
      have hfl : flat [(true, invL B), (true, A), (true, B)] = invW B ++ (A ++ B) := by simp [flat]; rfl
      rw [hfl] at kr
      repeat (first | refine S0 ?_ | refine S1 ?_ | refine S2 ?_ | refine S3 ?_ | refine S4 ?_ | refine S5 ?_ | refine S6 ?_ | refine S7 ?_ | refine S8 ?_ | refine S9 ?_ | refine S10 ?_ | refine S11 ?_ | refine S13 ?_ | refine S15 ?_ | refine S16 ?_ | refine S19 ?_ | refine S20 ?_ | refine S21 ?_ | refine S22 ?_ | refine S23 ?_ | refine S27 ?_ | refine S29 ?_ | refine S30 ?_ | refine S33 ?_ | refine S46 ?_ | refine S49 ?_ | refine S54 ?_ | refine S56 ?_ | refine S64 ?_ | refine S65 ?_ | refine S68 ?_ | refine S74 ?_)
      refine Scall (args := [plt B]) kv ?_
      repeat (first | refine S0 ?_ | refine S1 ?_ | refine S2 ?_ | refine S3 ?_ | refine S4 ?_ | refine S5 ?_ | refine S6 ?_ | refine S7 ?_ | refine S8 ?_ | refine S9 ?_ | refine S10 ?_ | refine S11 ?_ | refine S13 ?_ | refine S15 ?_ | refine S16 ?_ | refine S19 ?_ | refine S20 ?_ | refine S21 ?_ | refine S22 ?_ | refine S23 ?_ | refine S27 ?_ | refine S29 ?_ | refine S30 ?_ | refine S33 ?_ | refine S46 ?_ | refine S49 ?_ | refine S54 ?_ | refine S56 ?_ | refine S64 ?_ | refine S65 ?_ | refine S68 ?_ | refine S74 ?_)
      refine Scall (args := [.lst true 1 3 ([(true, invL B), (true, A), (true, B)].map pcl)]) kr ?_ (hc := by simp [pcl, PV.cl.clL, PV.cl, ints_cl])
      repeat (first | refine S0 ?_ | refine S1 ?_ | refine S2 ?_ | refine S3 ?_ | refine S4 ?_ | refine S5 ?_ | refine S6 ?_ | refine S7 ?_ | refine S8 ?_ | refine S9 ?_ | refine S10 ?_ | refine S11 ?_ | refine S13 ?_ | refine S15 ?_ | refine S16 ?_ | refine S19 ?_ | refine S20 ?_ | refine S21 ?_ | refine S22 ?_ | refine S23 ?_ | refine S27 ?_ | refine S29 ?_ | refine S30 ?_ | refine S33 ?_ | refine S46 ?_ | refine S49 ?_ | refine S54 ?_ | refine S56 ?_ | refine S64 ?_ | refine S65 ?_ | refine S68 ?_ | refine S74 ?_)
      rw [hlt, hlt2]
      have hS : ((L.map plt).set m (plt B)).set (m + 1) (.lst true 1 (red (invW B ++ (A ++ B))).length (ints (red (invW B ++ (A ++ B))))) = (imgT N ((-((m : Int) + 1)) :: vs.reverse)).map plt := by
        show ((L.map plt).set m (plt B)).set (m + 1) (plt (red (invW B ++ (A ++ B)))) = _
        rw [← List.map_set, ← List.map_set, hL]
        unfold imgT
        rw [tabL_set, tabL_set]
        congr 1
        refine tabL_congr (fun i hi => ?_)
        conv => rhs; unfold prg
        rw [if_neg hx0, hA, hB, Int.neg_neg]
        by_cases e1 : i = m + 1
        · rw [if_pos e1, if_neg (by omega), if_pos (by omega)]
        · rw [if_neg e1]
          by_cases e2 : i = m
          · rw [if_pos e2, if_pos (by omega)]
          · rw [if_neg e2, if_neg (by omega), if_neg (by omega)]
      rw [hS]
      obtain ⟨b1, b2, hIl2⟩ := himg (-((m : Int) + 1)) hx
      obtain ⟨L2, hL2⟩ : ∃ L2, L2 = imgT N ((-((m : Int) + 1)) :: vs.reverse) := ⟨_, rfl⟩
      rw [← hL2] at b1 b2 hIl2 ⊢
      have hdf : decide ((3000 : Int) < if ((L2.getD m []).length : Int) < ((L2.getD (m + 1) []).length : Int) then ((L2.getD (m + 1) []).length : Int) else ((L2.getD m []).length : Int)) = false := by
        apply decide_eq_false
        split <;> omega
      have hrev : (vs ++ [-((m : Int) + 1)]).reverse = (-((m : Int) + 1)) :: vs.reverse := by simp
      repeat (first | refine S0 ?_ | refine S1 ?_ | refine S2 ?_ | refine S3 ?_ | refine S4 ?_ | refine S5 ?_ | refine S6 ?_ | refine S7 ?_ | refine S8 ?_ | refine S9 ?_ | refine S10 ?_ | refine S11 ?_ | refine S13 ?_ | refine S15 ?_ | refine S16 ?_ | refine S19 ?_ | refine S20 ?_ | refine S21 ?_ | refine S22 ?_ | refine S23 ?_ | refine S27 ?_ | refine S29 ?_ | refine S30 ?_ | refine S33 ?_ | refine S46 ?_ | refine S49 ?_ | refine S54 ?_ | refine S56 ?_ | refine S64 ?_ | refine S65 ?_ | refine S68 ?_ | refine S74 ?_)
      rw [hlt2, hdf]
      repeat (first | refine S0 ?_ | refine S1 ?_ | refine S2 ?_ | refine S3 ?_ | refine S4 ?_ | refine S5 ?_ | refine S6 ?_ | refine S7 ?_ | refine S8 ?_ | refine S9 ?_ | refine S10 ?_ | refine S11 ?_ | refine S13 ?_ | refine S15 ?_ | refine S16 ?_ | refine S19 ?_ | refine S20 ?_ | refine S21 ?_ | refine S22 ?_ | refine S23 ?_ | refine S27 ?_ | refine S29 ?_ | refine S30 ?_ | refine S33 ?_ | refine S46 ?_ | refine S49 ?_ | refine S54 ?_ | refine S56 ?_ | refine S64 ?_ | refine S65 ?_ | refine S68 ?_ | refine S74 ?_)
      refine ⟨rfl, nf_set2 hN (nf_plts _), hx6, HBx, HBx, b, hbe, hbl, HBx, ?_⟩
      rw [hrev, ← hL2]
      exact HP.set_same _ _ _
  case hd =>
    intro D W ρ' hp R' hi hKD hD
    refine back_ret (M := {}) (fn := Try.f139) R' hi.1 hKD hD (by kernel_rfl) (by kernel_rfl) ?_ (fun u w' h1 h2 => ⟨u, rfl, h1, h2⟩)
    obtain ⟨hN, hx6, hb1, hb3, b, hbe, hbl, h5, h6⟩ := hi
    rw [List.reverse_reverse] at h6
    first | simp only [updS] | simp only [updL, Nat.reduceAdd]
    repeat (first | refine S0 ?_ | refine S1 ?_ | refine S2 ?_ | refine S3 ?_ | refine S4 ?_ | refine S5 ?_ | refine S6 ?_ | refine S7 ?_ | refine S8 ?_ | refine S9 ?_ | refine S10 ?_ | refine S11 ?_ | refine S13 ?_ | refine S15 ?_ | refine S16 ?_ | refine S19 ?_ | refine S20 ?_ | refine S21 ?_ | refine S22 ?_ | refine S23 ?_ | refine S27 ?_ | refine S29 ?_ | refine S30 ?_ | refine S33 ?_ | refine S46 ?_ | refine S49 ?_ | refine S54 ?_ | refine S56 ?_ | refine S64 ?_ | refine S65 ?_ | refine S68 ?_ | refine S74 ?_)
    exact ⟨[(4, .ptr 1 0), (5, .ptr 3 0)], SLx, rfl, (hN.set _ rfl).set _ rfl, FR.cell2 (p := .ref b 0 1 N) (q := pint 0) rfl HBx rfl rfl HBx rfl (Fz.pair (.ref (cs := (imgT N w).map plt) HBx (by simp [imgT]) (by simp [imgT]) (fun i hi => by
      rw [Nat.zero_add, getD_of (mapI_at (F := plt) (l := imgT N w) (by simp [imgT]; omega)), getD_of (mapI_at (F := pli) (l := imgT N w) (by simp [imgT]; omega))]
      exact .nrm (plt_cl _))) (.cl rfl))⟩
theorem images_s {N : Nat} {w : List Int} (h : bF N w = 0) (hl : w.length ≤ 10) : SC Try.prog 139 [pint N, pli w] (.tup [plls (imgT N w), pint 0]) := by
  have := images_ok h hl
  rwa [show PV.lst false 1 N ((imgT N w).map pli) = plls (imgT N w) by unfold plls imgT; rw [tabL_len]] at this
end Go.Proofs.Ytgjfpmjllpgadaa
