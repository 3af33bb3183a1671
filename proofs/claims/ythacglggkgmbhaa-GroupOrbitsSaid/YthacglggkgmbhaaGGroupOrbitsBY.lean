/- The law GroupOrbits holds for all numbers and lists. No condition of its own. -/
import Derived.Test.YthacglggkgmbhaaGGroupOrbitsBW
import Derived.Test.YthacglggkgmbhaaGGroupOrbitsBX
set_option linter.unusedVariables false
set_option linter.unusedSimpArgs false
namespace Go.Proofs.Ythacglggkgmbhaa
open Go.RowKit

theorem fst_mem {r : Nat → Nat} {k j : Nat} (h : j < (fstK r k).length) : (fstK r k).getD j 0 ∈ fstK r k := by
  rw [show (fstK r k).getD j 0 = (fstK r k)[j] by simp [List.getD, h]]; exact List.getElem_mem h
theorem parK_len (r : Nat → Nat) (k : Nat) : (parK r k).length = (fstK r k).length := by simp [parK]
theorem parK_get {r : Nat → Nat} {k j : Nat} (h : j < (fstK r k).length) : (parK r k).getD j [] = clsK r k ((fstK r k).getD j 0) := by simp [parK, List.getD, h]
theorem clsK_len (r : Nat → Nat) (k i : Nat) : (clsK r k i).length ≤ k := by
  unfold clsK
  rw [List.length_map]
  exact Nat.le_trans (List.length_filter_le _ _) (by simp)
theorem fstK_len (r : Nat → Nat) (k : Nat) : (fstK r k).length ≤ k := Nat.le_trans (List.length_filter_le _ _) (by simp)
/-- the pairs of the first a generators, and of the next one up to i -/
def prA (n : Nat) (gs : List Fn) (a i : Nat) : List (Nat × Nat) := prG n (gs.take a) ++ prs (gs.getD a id) i
theorem prA_all (n : Nat) (gs : List Fn) : prA n gs gs.length 0 = prG n gs := by simp [prA, prs]
theorem prA_next {n : Nat} {gs : List Fn} {a : Nat} (h : a < gs.length) : prA n gs a n = prA n gs (a + 1) 0 := by
  unfold prA prG
  rw [List.take_succ_eq_append_getElem h, List.flatMap_append, getD_lt id h]
  simp [prs]
theorem prA_succ (n : Nat) (gs : List Fn) (a i : Nat) : prA n gs a (i + 1) = prA n gs a i ++ [(i, (gs.getD a id) i)] := by
  unfold prA
  rw [prs_succ, List.append_assoc]
theorem cnt_all {α : Type} {E : List α} {d : α} (q : α → Bool) {pre : List Nat} (h1 : pre.Nodup) (h2 : ∀ i ∈ pre, i < E.length) (h3 : ∀ i, i < E.length → i ∈ pre) : (pre.filter fun i => q (E.getD i d)).length = (E.filter q).length := by
  have hp : pre.Perm (List.range E.length) := (List.perm_ext_iff_of_nodup h1 List.nodup_range).2 fun i => ⟨fun h => List.mem_range.2 (h2 i h), fun h => h3 i (List.mem_range.1 h)⟩
  rw [(hp.filter _).length_eq]
  have e : (List.range E.length).map (fun i => E.getD i d) = E := List.ext_getElem (by simp) (fun j g1 g2 => by simp [List.getD, g2])
  have : ((List.range E.length).filter fun i => q (E.getD i d)).map (fun i => E.getD i d) = E.filter q := by
    conv => rhs; rw [← e]
    rw [List.filter_map]
    rfl
  rw [← this, List.length_map]
set_option maxHeartbeats 4000000 in
set_option maxRecDepth 100000 in
theorem gorb1_e {js row : List Int} {n : Nat} {r : Nat → Nat} (H : Uf js n r) (hn : n ≤ 1000000) {i z tk : Nat} (hi : i < n) (hz : z < n) (hm : 1 ≤ row.length) (h0 : row.getD 0 0 = (z : Int)) {h : HP} (hb : h.blk tk = some (ints row)) :
    SChE Try.prog 21 [.ref tk 0 1 row.length, .lptr [pli js], .lptr [pint i]] h (fun v h' => v = .sc (.bool (decide (r z = r i))) ∧ Fr [] h h') := by
  have e : decide (r z = r i) = decide ((r z : Int) = (r i : Int)) := decide_eq_decide.2 ⟨fun e => by rw [e], fun e => by omega⟩
  rw [e]
  have h00 : row.getD (Int.toNat 0) 0 = (z : Int) := h0
  refine SChE.go {} tok mixed Try.func21 rfl rfl Try.ntmps21 rfl rfl (by kernel_rfl) (fun hw => ?_)
  first | simp only [updS] | simp only [updL, Nat.reduceAdd]
  have htk := hw.lt hb
  repeat (first | refine S0 ?_ | refine S1 ?_ | refine S2 ?_ | refine S3 ?_ | refine S4 ?_ | refine S5 ?_ | refine S6 ?_ | refine S7 ?_ | refine S8 ?_ | refine S9 ?_ | refine S10 ?_ | refine S11 ?_ | refine S13 ?_ | refine S15 ?_ | refine S16 ?_ | refine S19 ?_ | refine S20 ?_ | refine S21 ?_ | refine S22 ?_ | refine S23 ?_ | refine S25 ?_ | refine S26 ?_ | refine S27 ?_ | refine S28 ?_ | refine S29 ?_ | refine S30 ?_ | refine S32 ?_ | refine S34 ?_ | refine S36 ?_ | refine S37 ?_ | refine S38 ?_ | refine S39 ?_ | refine S40 ?_ | refine S41 ?_ | refine S45 ?_ | refine S46 ?_ | refine S49 ?_ | refine S50 ?_ | refine S56 ?_ | refine S65 ?_ | refine S66 ?_ | refine S68 ?_ | refine S93 ?_)
  rw [h00]
  refine Scall (args := [pli js, pint z]) (at_s H hn hz) ?_
  repeat (first | refine S0 ?_ | refine S1 ?_ | refine S2 ?_ | refine S3 ?_ | refine S4 ?_ | refine S5 ?_ | refine S6 ?_ | refine S7 ?_ | refine S8 ?_ | refine S9 ?_ | refine S10 ?_ | refine S11 ?_ | refine S13 ?_ | refine S15 ?_ | refine S16 ?_ | refine S19 ?_ | refine S20 ?_ | refine S21 ?_ | refine S22 ?_ | refine S23 ?_ | refine S25 ?_ | refine S26 ?_ | refine S27 ?_ | refine S28 ?_ | refine S29 ?_ | refine S30 ?_ | refine S32 ?_ | refine S34 ?_ | refine S36 ?_ | refine S37 ?_ | refine S38 ?_ | refine S39 ?_ | refine S40 ?_ | refine S41 ?_ | refine S45 ?_ | refine S46 ?_ | refine S49 ?_ | refine S50 ?_ | refine S56 ?_ | refine S65 ?_ | refine S66 ?_ | refine S68 ?_ | refine S93 ?_)
  refine Scall (args := [pli js, pint i]) (at_s H hn hi) ?_
  repeat (first | refine S0 ?_ | refine S1 ?_ | refine S2 ?_ | refine S3 ?_ | refine S4 ?_ | refine S5 ?_ | refine S6 ?_ | refine S7 ?_ | refine S8 ?_ | refine S9 ?_ | refine S10 ?_ | refine S11 ?_ | refine S13 ?_ | refine S15 ?_ | refine S16 ?_ | refine S19 ?_ | refine S20 ?_ | refine S21 ?_ | refine S22 ?_ | refine S23 ?_ | refine S25 ?_ | refine S26 ?_ | refine S27 ?_ | refine S28 ?_ | refine S29 ?_ | refine S30 ?_ | refine S32 ?_ | refine S34 ?_ | refine S36 ?_ | refine S37 ?_ | refine S38 ?_ | refine S39 ?_ | refine S40 ?_ | refine S41 ?_ | refine S45 ?_ | refine S46 ?_ | refine S49 ?_ | refine S50 ?_ | refine S56 ?_ | refine S65 ?_ | refine S66 ?_ | refine S68 ?_ | refine S93 ?_)
  exact ⟨.inr rfl, _, ⟨_, rfl, rfl⟩, rfl, Fr.refl _ _⟩
set_option maxHeartbeats 32000000 in
set_option maxRecDepth 100000 in
theorem gorbits_s (n : Int) {l : List (List Int)} (p : Int) (hb : ∀ r ∈ l, ∀ x ∈ r, in64 x) : SC Try.prog 5 [pint n, .lst false 1 l.length (l.map pli), pint p] (.sc (.bool true)) := by
  refine SC.len (callable Try.func5 rfl rfl) (fun hlen => ?_)
  have hll : l.length ≤ 9223372036854775807 := hlen (.lst false 1 l.length (l.map pli)) (by simp)
  clear hlen
  have kG := grouped_s
  have kf := gfault_s n (c := false) hb hll
  by_cases h0 : grF n l = 0
  · have kc := gcheck_s n (c := false) hb hll
    rw [h0] at kf kc
    obtain ⟨N, gs, rfl, hN, hl6, hg, rfl⟩ := grF_ok h0
    rw [List.length_map, gL_map] at *
    by_cases h6 : 6 < N
    · refine SC.go {} tok mixed Try.func5 rfl rfl Try.ntmps5 rfl rfl (by kernel_rfl) ?_
      first | simp only [updS] | simp only [updL, Nat.reduceAdd]
      repeat (first | refine S0 ?_ | refine S1 ?_ | refine S2 ?_ | refine S3 ?_ | refine S4 ?_ | refine S5 ?_ | refine S6 ?_ | refine S7 ?_ | refine S8 ?_ | refine S9 ?_ | refine S10 ?_ | refine S11 ?_ | refine S13 ?_ | refine S15 ?_ | refine S16 ?_ | refine S19 ?_ | refine S20 ?_ | refine S21 ?_ | refine S22 ?_ | refine S23 ?_ | refine S25 ?_ | refine S26 ?_ | refine S27 ?_ | refine S28 ?_ | refine S29 ?_ | refine S30 ?_ | refine S32 ?_ | refine S34 ?_ | refine S36 ?_ | refine S37 ?_ | refine S38 ?_ | refine S39 ?_ | refine S40 ?_ | refine S41 ?_ | refine S45 ?_ | refine S46 ?_ | refine S49 ?_ | refine S50 ?_ | refine S56 ?_ | refine S65 ?_ | refine S66 ?_ | refine S68 ?_ | refine S93 ?_)
      refine Scall (args := [pint N, .lst false 1 gs.length (gL N gs)]) kf ?_
      repeat (first | refine S0 ?_ | refine S1 ?_ | refine S2 ?_ | refine S3 ?_ | refine S4 ?_ | refine S5 ?_ | refine S6 ?_ | refine S7 ?_ | refine S8 ?_ | refine S9 ?_ | refine S10 ?_ | refine S11 ?_ | refine S13 ?_ | refine S15 ?_ | refine S16 ?_ | refine S19 ?_ | refine S20 ?_ | refine S21 ?_ | refine S22 ?_ | refine S23 ?_ | refine S25 ?_ | refine S26 ?_ | refine S27 ?_ | refine S28 ?_ | refine S29 ?_ | refine S30 ?_ | refine S32 ?_ | refine S34 ?_ | refine S36 ?_ | refine S37 ?_ | refine S38 ?_ | refine S39 ?_ | refine S40 ?_ | refine S41 ?_ | refine S45 ?_ | refine S46 ?_ | refine S49 ?_ | refine S50 ?_ | refine S56 ?_ | refine S65 ?_ | refine S66 ?_ | refine S68 ?_ | refine S93 ?_)
      refine Scall (args := []) kG ?_
      repeat (first | refine S0 ?_ | refine S1 ?_ | refine S2 ?_ | refine S3 ?_ | refine S4 ?_ | refine S5 ?_ | refine S6 ?_ | refine S7 ?_ | refine S8 ?_ | refine S9 ?_ | refine S10 ?_ | refine S11 ?_ | refine S13 ?_ | refine S15 ?_ | refine S16 ?_ | refine S19 ?_ | refine S20 ?_ | refine S21 ?_ | refine S22 ?_ | refine S23 ?_ | refine S25 ?_ | refine S26 ?_ | refine S27 ?_ | refine S28 ?_ | refine S29 ?_ | refine S30 ?_ | refine S32 ?_ | refine S34 ?_ | refine S36 ?_ | refine S37 ?_ | refine S38 ?_ | refine S39 ?_ | refine S40 ?_ | refine S41 ?_ | refine S45 ?_ | refine S46 ?_ | refine S49 ?_ | refine S50 ?_ | refine S56 ?_ | refine S65 ?_ | refine S66 ?_ | refine S68 ?_ | refine S93 ?_)
      refine Scall (args := []) kG ?_
      repeat (first | refine S0 ?_ | refine S1 ?_ | refine S2 ?_ | refine S3 ?_ | refine S4 ?_ | refine S5 ?_ | refine S6 ?_ | refine S7 ?_ | refine S8 ?_ | refine S9 ?_ | refine S10 ?_ | refine S11 ?_ | refine S13 ?_ | refine S15 ?_ | refine S16 ?_ | refine S19 ?_ | refine S20 ?_ | refine S21 ?_ | refine S22 ?_ | refine S23 ?_ | refine S25 ?_ | refine S26 ?_ | refine S27 ?_ | refine S28 ?_ | refine S29 ?_ | refine S30 ?_ | refine S32 ?_ | refine S34 ?_ | refine S36 ?_ | refine S37 ?_ | refine S38 ?_ | refine S39 ?_ | refine S40 ?_ | refine S41 ?_ | refine S45 ?_ | refine S46 ?_ | refine S49 ?_ | refine S50 ?_ | refine S56 ?_ | refine S65 ?_ | refine S66 ?_ | refine S68 ?_ | refine S93 ?_)
      exact ⟨.inr rfl, .cl rfl⟩
    · have hN6 : N ≤ 6 := by omega
      obtain ⟨i, hi⟩ := bfs_end hN hg
      have hB := Be.bfs hg i
      have ko := gorder_ok hN hg hl6 kc hB.nd (bfs_all hN hg hi)
      have kA := group_s hN (c := false) hg hl6 (E := bfs N gs i) ⟨i, hi, rfl⟩
      have hlen := be_fac hB
      have hfac := fac6 hN6
      have hal := bfs_all hN hg hi
      have kO := Orbits_ok hN (c := false) hg hl6 kc
      have hpe := fun x hx => (hB.ok x hx).1
      have hnd := hB.nd
      generalize bfs N gs i = E at *
      clear hi hB
      obtain ⟨kk, ff, kS, hS⟩ : ∃ kk ff : Int, SC Try.prog 17 [pint N, .lst false 1 gs.length (gL N gs), pint p] (.tup [pint kk, pint ff]) ∧ ((ff = 0 ∧ ∃ P : Nat, P < N ∧ p = (P : Int) ∧ kk = ((((E.map (·.1)).filter fun F => decide (F P = P)).length : Nat) : Int)) ∨ (ff = 1 ∧ kk = 0 ∧ (p < 0 ∨ (N : Int) ≤ p))) := by
        by_cases hp : p < 0 ∨ (N : Int) ≤ p
        · exact ⟨0, 1, stabo_out hp ko, .inr ⟨rfl, rfl, hp⟩⟩
        · have e : p = ((p.toNat : Nat) : Int) := by omega
          have := stabo_ok (p := p.toNat) hN (by omega) hg hl6 hnd hal (by rw [List.length_map]; omega) ko
          rw [← e] at this
          exact ⟨_, 0, this, .inl ⟨rfl, p.toNat, by omega, e, rfl⟩⟩
      have hkk : 0 ≤ kk ∧ kk ≤ 1000000 := by
        rcases hS with ⟨_, P, _, _, h⟩ | ⟨_, h, _⟩
        · have := List.length_filter_le (fun F : Fn => decide (F P = P)) (E.map (·.1))
          rw [List.length_map] at this
          omega
        · omega
      have hff : (ff = 0 ∧ 0 ≤ p ∧ p < N) ∨ (ff = 1 ∧ kk = 0 ∧ (p < 0 ∨ (N : Int) ≤ p)) := by
        rcases hS with ⟨h, P, h1, h2, _⟩ | h
        · exact .inl ⟨h, by omega, by omega⟩
        · exact .inr h
      obtain ⟨M, hM⟩ : ∃ M, M = orK (namG N gs) N N := ⟨_, rfl⟩
      rw [← hM] at kO
      refine SC.go { ss := [130], mt := [118, 119] } tok mixed Try.func5 rfl rfl Try.ntmps5 rfl rfl (by kernel_rfl) ?_
      first | simp only [updS] | simp only [updL, Nat.reduceAdd]
      repeat (first | refine S0 ?_ | refine S1 ?_ | refine S2 ?_ | refine S3 ?_ | refine S4 ?_ | refine S5 ?_ | refine S6 ?_ | refine S7 ?_ | refine S8 ?_ | refine S9 ?_ | refine S10 ?_ | refine S11 ?_ | refine S13 ?_ | refine S15 ?_ | refine S16 ?_ | refine S19 ?_ | refine S20 ?_ | refine S21 ?_ | refine S22 ?_ | refine S23 ?_ | refine S25 ?_ | refine S26 ?_ | refine S27 ?_ | refine S28 ?_ | refine S29 ?_ | refine S30 ?_ | refine S32 ?_ | refine S34 ?_ | refine S36 ?_ | refine S37 ?_ | refine S38 ?_ | refine S39 ?_ | refine S40 ?_ | refine S41 ?_ | refine S45 ?_ | refine S46 ?_ | refine S49 ?_ | refine S50 ?_ | refine S56 ?_ | refine S65 ?_ | refine S66 ?_ | refine S68 ?_ | refine S93 ?_)
      refine Scall (args := [pint N, .lst false 1 gs.length (gL N gs)]) kf ?_
      repeat (first | refine S0 ?_ | refine S1 ?_ | refine S2 ?_ | refine S3 ?_ | refine S4 ?_ | refine S5 ?_ | refine S6 ?_ | refine S7 ?_ | refine S8 ?_ | refine S9 ?_ | refine S10 ?_ | refine S11 ?_ | refine S13 ?_ | refine S15 ?_ | refine S16 ?_ | refine S19 ?_ | refine S20 ?_ | refine S21 ?_ | refine S22 ?_ | refine S23 ?_ | refine S25 ?_ | refine S26 ?_ | refine S27 ?_ | refine S28 ?_ | refine S29 ?_ | refine S30 ?_ | refine S32 ?_ | refine S34 ?_ | refine S36 ?_ | refine S37 ?_ | refine S38 ?_ | refine S39 ?_ | refine S40 ?_ | refine S41 ?_ | refine S45 ?_ | refine S46 ?_ | refine S49 ?_ | refine S50 ?_ | refine S56 ?_ | refine S65 ?_ | refine S66 ?_ | refine S68 ?_ | refine S93 ?_)
      refine Scall (args := []) kG ?_
      repeat (first | refine S0 ?_ | refine S1 ?_ | refine S2 ?_ | refine S3 ?_ | refine S4 ?_ | refine S5 ?_ | refine S6 ?_ | refine S7 ?_ | refine S8 ?_ | refine S9 ?_ | refine S10 ?_ | refine S11 ?_ | refine S13 ?_ | refine S15 ?_ | refine S16 ?_ | refine S19 ?_ | refine S20 ?_ | refine S21 ?_ | refine S22 ?_ | refine S23 ?_ | refine S25 ?_ | refine S26 ?_ | refine S27 ?_ | refine S28 ?_ | refine S29 ?_ | refine S30 ?_ | refine S32 ?_ | refine S34 ?_ | refine S36 ?_ | refine S37 ?_ | refine S38 ?_ | refine S39 ?_ | refine S40 ?_ | refine S41 ?_ | refine S45 ?_ | refine S46 ?_ | refine S49 ?_ | refine S50 ?_ | refine S56 ?_ | refine S65 ?_ | refine S66 ?_ | refine S68 ?_ | refine S93 ?_)
      refine Scall (args := [pint N, .lst false 1 gs.length (gL N gs)]) kO ?_ 
      repeat (first | refine S0 ?_ | refine S1 ?_ | refine S2 ?_ | refine S3 ?_ | refine S4 ?_ | refine S5 ?_ | refine S6 ?_ | refine S7 ?_ | refine S8 ?_ | refine S9 ?_ | refine S10 ?_ | refine S11 ?_ | refine S13 ?_ | refine S15 ?_ | refine S16 ?_ | refine S19 ?_ | refine S20 ?_ | refine S21 ?_ | refine S22 ?_ | refine S23 ?_ | refine S25 ?_ | refine S26 ?_ | refine S27 ?_ | refine S28 ?_ | refine S29 ?_ | refine S30 ?_ | refine S32 ?_ | refine S34 ?_ | refine S36 ?_ | refine S37 ?_ | refine S38 ?_ | refine S39 ?_ | refine S40 ?_ | refine S41 ?_ | refine S45 ?_ | refine S46 ?_ | refine S49 ?_ | refine S50 ?_ | refine S56 ?_ | refine S65 ?_ | refine S66 ?_ | refine S68 ?_ | refine S93 ?_)
      refine Scall (args := [pint N, .lst false 1 gs.length (gL N gs), pint p]) kS ?_
      iterate 19 (first | refine S0 ?_ | refine S1 ?_ | refine S2 ?_ | refine S3 ?_ | refine S4 ?_ | refine S5 ?_ | refine S6 ?_ | refine S7 ?_ | refine S8 ?_ | refine S9 ?_ | refine S10 ?_ | refine S11 ?_ | refine S13 ?_ | refine S15 ?_ | refine S16 ?_ | refine S19 ?_ | refine S20 ?_ | refine S21 ?_ | refine S22 ?_ | refine S23 ?_ | refine S25 ?_ | refine S26 ?_ | refine S27 ?_ | refine S28 ?_ | refine S29 ?_ | refine S30 ?_ | refine S32 ?_ | refine S34 ?_ | refine S36 ?_ | refine S37 ?_ | refine S38 ?_ | refine S39 ?_ | refine S40 ?_ | refine S41 ?_ | refine S45 ?_ | refine S46 ?_ | refine S49 ?_ | refine S50 ?_ | refine S56 ?_ | refine S65 ?_ | refine S66 ?_ | refine S68 ?_ | refine S93 ?_)
      refine CW.midS (fun _ : Unit => True) (fun _ => [(0, pint N), (1, .lst false 1 gs.length (gL N gs)), (2, pint p), (7, pint ff), (8, .lst true 1 M.length (M.map (LF true))), (9, pint 0), (10, pint kk), (11, pint ff)]) (fun _ hp => hp = H0) ?_ ?_
      · rcases hff with ⟨rfl, h1, h2⟩ | ⟨rfl, rfl, h1⟩
        · repeat (first | refine S0 ?_ | refine S1 ?_ | refine S2 ?_ | refine S3 ?_ | refine S4 ?_ | refine S5 ?_ | refine S6 ?_ | refine S7 ?_ | refine S8 ?_ | refine S9 ?_ | refine S10 ?_ | refine S11 ?_ | refine S13 ?_ | refine S15 ?_ | refine S16 ?_ | refine S19 ?_ | refine S20 ?_ | refine S21 ?_ | refine S22 ?_ | refine S23 ?_ | refine S25 ?_ | refine S26 ?_ | refine S27 ?_ | refine S28 ?_ | refine S29 ?_ | refine S30 ?_ | refine S32 ?_ | refine S34 ?_ | refine S36 ?_ | refine S37 ?_ | refine S38 ?_ | refine S39 ?_ | refine S40 ?_ | refine S41 ?_ | refine S45 ?_ | refine S46 ?_ | refine S49 ?_ | refine S50 ?_ | refine S56 ?_ | refine S65 ?_ | refine S66 ?_ | refine S68 ?_ | refine S93 ?_)
          exact ⟨(), trivial, SLx, rfl⟩
        · by_cases h2 : p < 0
          · repeat (first | refine S0 ?_ | refine S1 ?_ | refine S2 ?_ | refine S3 ?_ | refine S4 ?_ | refine S5 ?_ | refine S6 ?_ | refine S7 ?_ | refine S8 ?_ | refine S9 ?_ | refine S10 ?_ | refine S11 ?_ | refine S13 ?_ | refine S15 ?_ | refine S16 ?_ | refine S19 ?_ | refine S20 ?_ | refine S21 ?_ | refine S22 ?_ | refine S23 ?_ | refine S25 ?_ | refine S26 ?_ | refine S27 ?_ | refine S28 ?_ | refine S29 ?_ | refine S30 ?_ | refine S32 ?_ | refine S34 ?_ | refine S36 ?_ | refine S37 ?_ | refine S38 ?_ | refine S39 ?_ | refine S40 ?_ | refine S41 ?_ | refine S45 ?_ | refine S46 ?_ | refine S49 ?_ | refine S50 ?_ | refine S56 ?_ | refine S65 ?_ | refine S66 ?_ | refine S68 ?_ | refine S93 ?_)
            exact ⟨(), trivial, SLx, rfl⟩
          · repeat (first | refine S0 ?_ | refine S1 ?_ | refine S2 ?_ | refine S3 ?_ | refine S4 ?_ | refine S5 ?_ | refine S6 ?_ | refine S7 ?_ | refine S8 ?_ | refine S9 ?_ | refine S10 ?_ | refine S11 ?_ | refine S13 ?_ | refine S15 ?_ | refine S16 ?_ | refine S19 ?_ | refine S20 ?_ | refine S21 ?_ | refine S22 ?_ | refine S23 ?_ | refine S25 ?_ | refine S26 ?_ | refine S27 ?_ | refine S28 ?_ | refine S29 ?_ | refine S30 ?_ | refine S32 ?_ | refine S34 ?_ | refine S36 ?_ | refine S37 ?_ | refine S38 ?_ | refine S39 ?_ | refine S40 ?_ | refine S41 ?_ | refine S45 ?_ | refine S46 ?_ | refine S49 ?_ | refine S50 ?_ | refine S56 ?_ | refine S65 ?_ | refine S66 ?_ | refine S68 ?_ | refine S93 ?_)
            exact ⟨(), trivial, SLx, rfl⟩
      rintro _ t h _ rfl
      first | simp only [updS] | simp only [updL, Nat.reduceAdd]
      refine CW.seq ?_
      refine CW.midS (fun _ : Unit => True) (fun _ => [(0, pint N), (1, .lst false 1 gs.length (gL N gs)), (2, pint p), (7, pint ff), (8, .lst true 1 M.length (M.map (LF true))), (9, pint 0), (10, pint kk), (11, pint ff)]) (fun _ hp => hp = H0) ?_ ?_
      · rcases hff with ⟨rfl, h1, h2⟩ | ⟨rfl, rfl, h1⟩
        · repeat (first | refine S0 ?_ | refine S1 ?_ | refine S2 ?_ | refine S3 ?_ | refine S4 ?_ | refine S5 ?_ | refine S6 ?_ | refine S7 ?_ | refine S8 ?_ | refine S9 ?_ | refine S10 ?_ | refine S11 ?_ | refine S13 ?_ | refine S15 ?_ | refine S16 ?_ | refine S19 ?_ | refine S20 ?_ | refine S21 ?_ | refine S22 ?_ | refine S23 ?_ | refine S25 ?_ | refine S26 ?_ | refine S27 ?_ | refine S28 ?_ | refine S29 ?_ | refine S30 ?_ | refine S32 ?_ | refine S34 ?_ | refine S36 ?_ | refine S37 ?_ | refine S38 ?_ | refine S39 ?_ | refine S40 ?_ | refine S41 ?_ | refine S45 ?_ | refine S46 ?_ | refine S49 ?_ | refine S50 ?_ | refine S56 ?_ | refine S65 ?_ | refine S66 ?_ | refine S68 ?_ | refine S93 ?_)
          exact ⟨(), trivial, SLx, rfl⟩
        · repeat (first | refine S0 ?_ | refine S1 ?_ | refine S2 ?_ | refine S3 ?_ | refine S4 ?_ | refine S5 ?_ | refine S6 ?_ | refine S7 ?_ | refine S8 ?_ | refine S9 ?_ | refine S10 ?_ | refine S11 ?_ | refine S13 ?_ | refine S15 ?_ | refine S16 ?_ | refine S19 ?_ | refine S20 ?_ | refine S21 ?_ | refine S22 ?_ | refine S23 ?_ | refine S25 ?_ | refine S26 ?_ | refine S27 ?_ | refine S28 ?_ | refine S29 ?_ | refine S30 ?_ | refine S32 ?_ | refine S34 ?_ | refine S36 ?_ | refine S37 ?_ | refine S38 ?_ | refine S39 ?_ | refine S40 ?_ | refine S41 ?_ | refine S45 ?_ | refine S46 ?_ | refine S49 ?_ | refine S50 ?_ | refine S56 ?_ | refine S65 ?_ | refine S66 ?_ | refine S68 ?_ | refine S93 ?_)
          exact ⟨(), trivial, SLx, rfl⟩
      clear t
      rintro _ t h _ rfl
      first | simp only [updS] | simp only [updL, Nat.reduceAdd]
      have kp := points_o N (by omega)
      repeat (first | refine S0 ?_ | refine S1 ?_ | refine S2 ?_ | refine S3 ?_ | refine S4 ?_ | refine S5 ?_ | refine S6 ?_ | refine S7 ?_ | refine S8 ?_ | refine S9 ?_ | refine S10 ?_ | refine S11 ?_ | refine S13 ?_ | refine S15 ?_ | refine S16 ?_ | refine S19 ?_ | refine S20 ?_ | refine S21 ?_ | refine S22 ?_ | refine S23 ?_ | refine S25 ?_ | refine S26 ?_ | refine S27 ?_ | refine S28 ?_ | refine S29 ?_ | refine S30 ?_ | refine S32 ?_ | refine S34 ?_ | refine S36 ?_ | refine S37 ?_ | refine S38 ?_ | refine S39 ?_ | refine S40 ?_ | refine S41 ?_ | refine S45 ?_ | refine S46 ?_ | refine S49 ?_ | refine S50 ?_ | refine S56 ?_ | refine S65 ?_ | refine S66 ?_ | refine S68 ?_ | refine S93 ?_)
      refine Scallo (args := [pint N]) kp ?_
      repeat (first | refine S0 ?_ | refine S1 ?_ | refine S2 ?_ | refine S3 ?_ | refine S4 ?_ | refine S5 ?_ | refine S6 ?_ | refine S7 ?_ | refine S8 ?_ | refine S9 ?_ | refine S10 ?_ | refine S11 ?_ | refine S13 ?_ | refine S15 ?_ | refine S16 ?_ | refine S19 ?_ | refine S20 ?_ | refine S21 ?_ | refine S22 ?_ | refine S23 ?_ | refine S25 ?_ | refine S26 ?_ | refine S27 ?_ | refine S28 ?_ | refine S29 ?_ | refine S30 ?_ | refine S32 ?_ | refine S34 ?_ | refine S36 ?_ | refine S37 ?_ | refine S38 ?_ | refine S39 ?_ | refine S40 ?_ | refine S41 ?_ | refine S45 ?_ | refine S46 ?_ | refine S49 ?_ | refine S50 ?_ | refine S56 ?_ | refine S65 ?_ | refine S66 ?_ | refine S68 ?_ | refine S93 ?_)
      clear ko kO kS kc kf kG kp
      refine CW.loopS (fun i : Nat × List Int => i.1 ≤ gs.length ∧ Uf i.2 N (joinA id (prA N gs i.1 0))) (fun i => [(0, pint N), (1, .lst false 1 gs.length (gL N gs)), (2, pint p), (8, .lst true 1 M.length (M.map (LF true))), (10, pint kk), (11, pint ff), (12, .ptr 3 0), (88, .lst false 1 gs.length (gL N gs)), (89, pint gs.length), (90, pint i.1)])
        (fun i hp => hp.blk 0 = some (ints i.2) ∧ hp.blk 3 = some [.ref 0 0 1 N] ∧ 2 ≤ hp.next) (fun i => gs.length - i.1) (0, tabN N id) ⟨⟨Nat.zero_le _, uf_start N⟩, SLx, HBx, HBx, (by first | omega | (simp only [HP.tokF, HP.tokT, HP.next_add, HP.next_set, HP.next_kill, HP.next_H0, HP.next_addS, HP.next_setS, HP.next_killS, HP.next_put, HP.next_bump, HP.next_putS]; omega))⟩ ?_
      clear t
      rintro ⟨a, js⟩ t hp ⟨ha, hU⟩ ⟨hB0, hB3, hnx⟩
      simp only at ha hU hB0
      first | simp only [updS] | simp only [updL, Nat.reduceAdd]
      by_cases ha2 : a < gs.length
      · have hga : ((gL N gs).drop ((a : Int).toNat * 1))[0]? = some (pli (tabN N (gs.getD a id))) := gL_at ha2
        have hgm := mem_getD ha2 id
        have hpg := hg _ hgm
        have hnext := prA_next (n := N) ha2
        have hsucc := prA_succ N gs a
        generalize gs.getD a id = g at *
        have hgl := tab_len N g
        repeat (first | refine S0 ?_ | refine S1 ?_ | refine S2 ?_ | refine S3 ?_ | refine S4 ?_ | refine S5 ?_ | refine S6 ?_ | refine S7 ?_ | refine S8 ?_ | refine S9 ?_ | refine S10 ?_ | refine S11 ?_ | refine S13 ?_ | refine S15 ?_ | refine S16 ?_ | refine S19 ?_ | refine S20 ?_ | refine S21 ?_ | refine S22 ?_ | refine S23 ?_ | refine S25 ?_ | refine S26 ?_ | refine S27 ?_ | refine S28 ?_ | refine S29 ?_ | refine S30 ?_ | refine S32 ?_ | refine S34 ?_ | refine S36 ?_ | refine S37 ?_ | refine S38 ?_ | refine S39 ?_ | refine S40 ?_ | refine S41 ?_ | refine S45 ?_ | refine S46 ?_ | refine S49 ?_ | refine S50 ?_ | refine S56 ?_ | refine S65 ?_ | refine S66 ?_ | refine S68 ?_ | refine S93 ?_)
        refine AW.ldl EVx rfl (p := pli (tabN N g)) hga ?_
        repeat (first | refine S0 ?_ | refine S1 ?_ | refine S2 ?_ | refine S3 ?_ | refine S4 ?_ | refine S5 ?_ | refine S6 ?_ | refine S7 ?_ | refine S8 ?_ | refine S9 ?_ | refine S10 ?_ | refine S11 ?_ | refine S13 ?_ | refine S15 ?_ | refine S16 ?_ | refine S19 ?_ | refine S20 ?_ | refine S21 ?_ | refine S22 ?_ | refine S23 ?_ | refine S25 ?_ | refine S26 ?_ | refine S27 ?_ | refine S28 ?_ | refine S29 ?_ | refine S30 ?_ | refine S32 ?_ | refine S34 ?_ | refine S36 ?_ | refine S37 ?_ | refine S38 ?_ | refine S39 ?_ | refine S40 ?_ | refine S41 ?_ | refine S45 ?_ | refine S46 ?_ | refine S49 ?_ | refine S50 ?_ | refine S56 ?_ | refine S65 ?_ | refine S66 ?_ | refine S68 ?_ | refine S93 ?_)
        refine CW.loopS (fun i : Nat × List Int => i.1 ≤ N ∧ Uf i.2 N (joinA id (prA N gs a i.1))) (fun i => [(0, pint N), (1, .lst false 1 gs.length (gL N gs)), (2, pint p), (8, .lst true 1 M.length (M.map (LF true))), (10, pint kk), (11, pint ff), (12, .ptr 3 0), (88, .lst false 1 gs.length (gL N gs)), (89, pint gs.length), (90, pint a), (94, pli (tabN N g)), (95, pint (tabN N g).length), (96, pint i.1)])
          (fun i hp => hp.blk 0 = some (ints i.2) ∧ hp.blk 3 = some [.ref 0 0 1 N] ∧ 2 ≤ hp.next) (fun i => N - i.1) (0, js) ⟨⟨Nat.zero_le _, hU⟩, SLx, hB0, hB3, hnx⟩ ?_
        clear hB0 hB3 hnx hU
        clear t hp js
        rintro ⟨i, js⟩ t hp ⟨hi, hU⟩ ⟨hB0, hB3, hnx⟩
        simp only at hi hU hB0 hB3
        first | simp only [updS] | simp only [updL, Nat.reduceAdd]
        by_cases hi2 : i < N
        · have hgi : (tabN N g).getD i 0 = (g i : Int) := tabN_get hi2
          have hj := join_e hU (by omega) hi2 (hpg.lt i hi2) hB0
          repeat (first | refine S0 ?_ | refine S1 ?_ | refine S2 ?_ | refine S3 ?_ | refine S4 ?_ | refine S5 ?_ | refine S6 ?_ | refine S7 ?_ | refine S8 ?_ | refine S9 ?_ | refine S10 ?_ | refine S11 ?_ | refine S13 ?_ | refine S15 ?_ | refine S16 ?_ | refine S19 ?_ | refine S20 ?_ | refine S21 ?_ | refine S22 ?_ | refine S23 ?_ | refine S25 ?_ | refine S26 ?_ | refine S27 ?_ | refine S28 ?_ | refine S29 ?_ | refine S30 ?_ | refine S32 ?_ | refine S34 ?_ | refine S36 ?_ | refine S37 ?_ | refine S38 ?_ | refine S39 ?_ | refine S40 ?_ | refine S41 ?_ | refine S45 ?_ | refine S46 ?_ | refine S49 ?_ | refine S50 ?_ | refine S56 ?_ | refine S65 ?_ | refine S66 ?_ | refine S68 ?_ | refine S93 ?_)
          rw [hgi]
          refine Scalle (args := [.ref 0 0 1 N, pint i, pint (g i)]) hj ?_
          rintro v h2 ⟨hb2, hF⟩
          have hU2 := hU.join hi2 (hpg.lt i hi2)
          have e : joinA id (prA N gs a (i + 1)) = joinR (joinA id (prA N gs a i)) i (g i) := by rw [hsucc, joinA_snoc]
          have hB3' : h2.blk 3 = some [.ref 0 0 1 N] := by rw [hF.blk 3 (by omega) (by simp)]; exact hB3
          have hnx' := hF.next
          repeat (first | refine S0 ?_ | refine S1 ?_ | refine S2 ?_ | refine S3 ?_ | refine S4 ?_ | refine S5 ?_ | refine S6 ?_ | refine S7 ?_ | refine S8 ?_ | refine S9 ?_ | refine S10 ?_ | refine S11 ?_ | refine S13 ?_ | refine S15 ?_ | refine S16 ?_ | refine S19 ?_ | refine S20 ?_ | refine S21 ?_ | refine S22 ?_ | refine S23 ?_ | refine S25 ?_ | refine S26 ?_ | refine S27 ?_ | refine S28 ?_ | refine S29 ?_ | refine S30 ?_ | refine S32 ?_ | refine S34 ?_ | refine S36 ?_ | refine S37 ?_ | refine S38 ?_ | refine S39 ?_ | refine S40 ?_ | refine S41 ?_ | refine S45 ?_ | refine S46 ?_ | refine S49 ?_ | refine S50 ?_ | refine S56 ?_ | refine S65 ?_ | refine S66 ?_ | refine S68 ?_ | refine S93 ?_)
          exact ⟨(i + 1, _), ⟨hi2, by simp only; rw [e]; exact hU2⟩, SLx, ⟨hb2, hB3', (by first | omega | (simp only [HP.tokF, HP.tokT, HP.next_add, HP.next_set, HP.next_kill, HP.next_H0, HP.next_addS, HP.next_setS, HP.next_killS, HP.next_put, HP.next_bump, HP.next_putS]; omega))⟩, by simp only; omega⟩
        · obtain rfl : i = N := by omega
          repeat (first | refine S0 ?_ | refine S1 ?_ | refine S2 ?_ | refine S3 ?_ | refine S4 ?_ | refine S5 ?_ | refine S6 ?_ | refine S7 ?_ | refine S8 ?_ | refine S9 ?_ | refine S10 ?_ | refine S11 ?_ | refine S13 ?_ | refine S15 ?_ | refine S16 ?_ | refine S19 ?_ | refine S20 ?_ | refine S21 ?_ | refine S22 ?_ | refine S23 ?_ | refine S25 ?_ | refine S26 ?_ | refine S27 ?_ | refine S28 ?_ | refine S29 ?_ | refine S30 ?_ | refine S32 ?_ | refine S34 ?_ | refine S36 ?_ | refine S37 ?_ | refine S38 ?_ | refine S39 ?_ | refine S40 ?_ | refine S41 ?_ | refine S45 ?_ | refine S46 ?_ | refine S49 ?_ | refine S50 ?_ | refine S56 ?_ | refine S65 ?_ | refine S66 ?_ | refine S68 ?_ | refine S93 ?_)
          exact ⟨(a + 1, js), ⟨by simp only; omega, by simp only; rw [← hnext]; exact hU⟩, SLx, ⟨hB0, hB3, hnx⟩, by simp only; omega⟩
      · obtain rfl : a = gs.length := by omega
        rw [prA_all, show joinA id (prG N gs) = namG N gs from rfl] at hU
        have hMp : M = parK (namG N gs) N := hM
        generalize namG N gs = r at *
        repeat (first | refine S0 ?_ | refine S1 ?_ | refine S2 ?_ | refine S3 ?_ | refine S4 ?_ | refine S5 ?_ | refine S6 ?_ | refine S7 ?_ | refine S8 ?_ | refine S9 ?_ | refine S10 ?_ | refine S11 ?_ | refine S13 ?_ | refine S15 ?_ | refine S16 ?_ | refine S19 ?_ | refine S20 ?_ | refine S21 ?_ | refine S22 ?_ | refine S23 ?_ | refine S25 ?_ | refine S26 ?_ | refine S27 ?_ | refine S28 ?_ | refine S29 ?_ | refine S30 ?_ | refine S32 ?_ | refine S34 ?_ | refine S36 ?_ | refine S37 ?_ | refine S38 ?_ | refine S39 ?_ | refine S40 ?_ | refine S41 ?_ | refine S45 ?_ | refine S46 ?_ | refine S49 ?_ | refine S50 ?_ | refine S56 ?_ | refine S65 ?_ | refine S66 ?_ | refine S68 ?_ | refine S93 ?_)
        refine CW.freezeC 3 0 (tk := 0) hB3 rfl hB0 (by rw [ints_length, hU.len]; omega) (by decide) (r := pli js) (by
          have := hU.len
          rw [List.drop_zero, Nat.mul_one, ints_take, ← this, List.take_length]; rfl) ?_
        refine CW.freezeP 12 (tk := 3) rfl HBx ?_
        refine CW.own 17 1 rfl ?_
        refine CW.loopS (fun k : Nat × Nat × (Nat → Nat) => k.1 ≤ N) (fun k => [(0, pint N), (1, .lst false 1 gs.length (gL N gs)), (2, pint p), (8, .lst true 1 M.length (M.map (LF true))), (10, pint kk), (11, pint ff), (12, .lptr [pli js]), (17, .ref k.2.1 0 1 (fstK r k.1).length), (107, pint N), (108, pint k.1)])
          (fun k hp => RowsI (fstK r k.1).length (fstK r k.1).length k.2.1 k.2.2 (fun j => (parK r k.1).getD j []) hp) (fun k => N - k.1) (0, 2 * hp.next, fun _ => 0) ⟨Nat.zero_le _, SLx, RowsI.start (by exact HBx) (by simp only; omega) (by first | omega | (simp only [HP.tokF, HP.tokT, HP.next_add, HP.next_set, HP.next_kill, HP.next_H0, HP.next_addS, HP.next_setS, HP.next_killS, HP.next_put, HP.next_bump, HP.next_putS]; omega))⟩ ?_
        clear hB0 hB3 hnx
        clear hp t
        rintro ⟨k, T, tk⟩ t hp hk R
        simp only at hk R
        first | simp only [updS] | simp only [updL, Nat.reduceAdd]
        by_cases hk2 : k < N
        · iterate 18 (first | refine S0 ?_ | refine S1 ?_ | refine S2 ?_ | refine S3 ?_ | refine S4 ?_ | refine S5 ?_ | refine S6 ?_ | refine S7 ?_ | refine S8 ?_ | refine S9 ?_ | refine S10 ?_ | refine S11 ?_ | refine S13 ?_ | refine S15 ?_ | refine S16 ?_ | refine S19 ?_ | refine S20 ?_ | refine S21 ?_ | refine S22 ?_ | refine S23 ?_ | refine S25 ?_ | refine S26 ?_ | refine S27 ?_ | refine S28 ?_ | refine S29 ?_ | refine S30 ?_ | refine S32 ?_ | refine S34 ?_ | refine S36 ?_ | refine S37 ?_ | refine S38 ?_ | refine S39 ?_ | refine S40 ?_ | refine S41 ?_ | refine S45 ?_ | refine S46 ?_ | refine S49 ?_ | refine S50 ?_ | refine S56 ?_ | refine S65 ?_ | refine S66 ?_ | refine S68 ?_ | refine S93 ?_)
          refine CW.freezeP 18 (tk := hp.tok true) rfl HBx ?_
          obtain ⟨X, hX⟩ : ∃ X, X = ((hp.add true [PV.sc (.int .i64 0)]).set (hp.tok true) [pint k]).kill (hp.tok true) := ⟨_, rfl⟩
          have RX : RowsI (fstK r k).length (fstK r k).length T tk (fun j => (parK r k).getD j []) X := R.keep (by rw [hX]; show _ ≤ hp.next + 1; omega) (fun t ht => by
            have h2 : t ≠ hp.tok true := by
              rw [HP.tokT]
              rcases ht with rfl | ⟨j, hj, rfl⟩
              · have := R.ltT; omega
              · have := R.lt j hj; omega
            rw [hX]
            exact (HP.kill_other _ h2).trans ((HP.set_other _ _ h2).trans (HP.add_other _ _ _ h2)))
          rw [show (pint k : PV) = .sc (.int .i64 (k : Int)) from rfl] at hX
          rw [← hX]
          clear hX R
          have hlK := fstK_len r k
          have hix := ixown_e (f := 21) (cap := [.lptr [pli js], .lptr [pint k]]) (fun j => decide (r ((fstK r k).getD j 0) = r k)) (by omega) RX (fun j hj h' R' => by
            have hm := fst_mem hj
            have hh := clsK_head hm
            have hlt := (mem_fstK.1 hm).1
            rw [← parK_get hj] at hh
            exact gorb1_e hU (by omega) hk2 (by omega) hh.2 hh.1 (R'.row j hj))
          repeat (first | refine S0 ?_ | refine S1 ?_ | refine S2 ?_ | refine S3 ?_ | refine S4 ?_ | refine S5 ?_ | refine S6 ?_ | refine S7 ?_ | refine S8 ?_ | refine S9 ?_ | refine S10 ?_ | refine S11 ?_ | refine S13 ?_ | refine S15 ?_ | refine S16 ?_ | refine S19 ?_ | refine S20 ?_ | refine S21 ?_ | refine S22 ?_ | refine S23 ?_ | refine S25 ?_ | refine S26 ?_ | refine S27 ?_ | refine S28 ?_ | refine S29 ?_ | refine S30 ?_ | refine S32 ?_ | refine S34 ?_ | refine S36 ?_ | refine S37 ?_ | refine S38 ?_ | refine S39 ?_ | refine S40 ?_ | refine S41 ?_ | refine S45 ?_ | refine S46 ?_ | refine S49 ?_ | refine S50 ?_ | refine S56 ?_ | refine S65 ?_ | refine S66 ?_ | refine S68 ?_ | refine S93 ?_)
          refine Scalle (args := [.ref T 0 1 (fstK r k).length, .clo 21 [.lptr [pli js], .lptr [pint k]]]) hix ?_
          rintro v h' ⟨hcase, hF⟩
          have R2 := RX.fr hF (by simp) (by simp)
          clear hix RX hF
          rcases hcase with ⟨rfl, hno⟩ | ⟨p, hp1, rfl, hp2, hp3⟩
          · have hnew : ∀ j, j < k → r j ≠ r k := fun j hj e => by
              obtain ⟨a, ha, hra, _⟩ := fstK_ex r hj
              obtain ⟨q, hq, rfl⟩ := List.getElem_of_mem ha
              have := hno q hq
              rw [show (fstK r k).getD q 0 = (fstK r k)[q] by simp [List.getD, hq]] at this
              rw [decide_eq_false_iff_not] at this
              exact this (by rw [hra, e])
            have b0 := R2.out
            have hlT := R2.ltT
            have hpn := parK_new (r := r) (k := k) hnew
            have hfn : (fstK r (k + 1)).length = (fstK r k).length + 1 := by rw [← parK_len, hpn, List.length_append, parK_len]; rfl
            have hrow : ∀ j, j < (fstK r k).length + 1 → ovr (fun j => (parK r k).getD j []) (fstK r k).length [(k : Int)] j = (parK r (k + 1)).getD j [] := fun j hj => by
              rw [hpn]
              have hpl := parK_len r k
              by_cases e : j = (fstK r k).length
              · rw [e, ovr_same]; simp [List.getD, ← hpl]
              · rw [ovr_ne _ _ e]
                simp only [List.getD]
                rw [List.getElem?_append_left (by omega)]
            obtain ⟨K, hK⟩ : ∃ K, K = (fstK r k).length := ⟨_, rfl⟩
            obtain ⟨rows, hrows⟩ : ∃ rows, rows = (fun j => (parK r k).getD j []) := ⟨_, rfl⟩
            rw [← hK] at R2 b0 hfn hrow hlK
            rw [← hrows] at R2 b0 hrow
            repeat (first | refine S0 ?_ | refine S1 ?_ | refine S2 ?_ | refine S3 ?_ | refine S4 ?_ | refine S5 ?_ | refine S6 ?_ | refine S7 ?_ | refine S8 ?_ | refine S9 ?_ | refine S10 ?_ | refine S11 ?_ | refine S13 ?_ | refine S15 ?_ | refine S16 ?_ | refine S19 ?_ | refine S20 ?_ | refine S21 ?_ | refine S22 ?_ | refine S23 ?_ | refine S25 ?_ | refine S26 ?_ | refine S27 ?_ | refine S28 ?_ | refine S29 ?_ | refine S30 ?_ | refine S32 ?_ | refine S34 ?_ | refine S36 ?_ | refine S37 ?_ | refine S38 ?_ | refine S39 ?_ | refine S40 ?_ | refine S41 ?_ | refine S45 ?_ | refine S46 ?_ | refine S49 ?_ | refine S50 ?_ | refine S56 ?_ | refine S65 ?_ | refine S66 ?_ | refine S68 ?_ | refine S93 ?_)
            rw [← hK]
            have n1 : h'.tok false = 2 * h'.next := HP.tokF _
            have n2 : (h'.add false [.sc (.int .i64 (k : Int))]).tok false = 2 * (h'.next + 1) := HP.tokF _
            refine AW.app (m := K) (m2 := 1) (off := 0) (cs2 := [.ref (h'.tok false) 0 1 1]) (cs := outI K tk rows K) (r := outI (K + 1) (ovr tk K (h'.tok false)) (ovr rows K [(k : Int)]) (K + 1)) (q := K + 1) EVx (by first | exact Or.inl rfl | exact Or.inr ⟨rfl, HP.tok_even _⟩ | exact Or.inr (Or.inl ⟨rfl, HP.tok_even _⟩) | exact Or.inr (Or.inr ⟨rfl, HP.tok_odd _⟩) | exact Or.inr (Or.inl rfl) | exact Or.inr (Or.inr (Or.inl rfl)) | exact Or.inr (Or.inr (Or.inr (Or.inl ⟨rfl, HP.tok_odd _⟩))) | exact Or.inr (Or.inr (Or.inr (Or.inr ⟨rfl, HP.tok_even _⟩))) | exact Or.inr (Or.inr (Or.inr (Or.inr ⟨rfl, by assumption⟩))) | exact Or.inr ⟨rfl, by assumption⟩ | exact Or.inr (Or.inl ⟨rfl, by assumption⟩) | exact Or.inr (Or.inr ⟨rfl, by assumption⟩) | exact Or.inr (Or.inr (Or.inr (Or.inl ⟨rfl, by assumption⟩))) | exact Or.inr (Or.inr (Or.inl ⟨rfl, HP.tok_odd _⟩)) | exact Or.inr (Or.inr (Or.inl ⟨rfl, by assumption⟩)) | exact Or.inr (Or.inr (Or.inr rfl)) | exact Or.inr (Or.inr rfl) | exact Or.inr rfl) rfl ((HP.add_other _ _ _ (by omega)).trans ((HP.add_other _ _ _ (by omega)).trans b0)) (by simp only [evA, upd, Nat.reduceEqDiff, ↓reduceIte]; exact ⟨rfl, rfl, _, HP.add_same _ _ _, by simp, rfl⟩) (by rw [outI_len]; omega) (by intro p hp; simp only [List.mem_singleton] at hp; subst hp; rfl) (by first | omega | (simp only [ints_length, bls_length, List.length_map, List.length_append, List.length_set, List.length_cons, List.length_nil, Int.toNat_natCast]; omega)) (by rw [List.drop_zero, Nat.mul_one, List.take_of_length_le (by rw [outI_len]; exact Nat.le_refl _)]; exact outI_app (r := [(k : Int)])) rfl ?_
            repeat (first | refine S0 ?_ | refine S1 ?_ | refine S2 ?_ | refine S3 ?_ | refine S4 ?_ | refine S5 ?_ | refine S6 ?_ | refine S7 ?_ | refine S8 ?_ | refine S9 ?_ | refine S10 ?_ | refine S11 ?_ | refine S13 ?_ | refine S15 ?_ | refine S16 ?_ | refine S19 ?_ | refine S20 ?_ | refine S21 ?_ | refine S22 ?_ | refine S23 ?_ | refine S25 ?_ | refine S26 ?_ | refine S27 ?_ | refine S28 ?_ | refine S29 ?_ | refine S30 ?_ | refine S32 ?_ | refine S34 ?_ | refine S36 ?_ | refine S37 ?_ | refine S38 ?_ | refine S39 ?_ | refine S40 ?_ | refine S41 ?_ | refine S45 ?_ | refine S46 ?_ | refine S49 ?_ | refine S50 ?_ | refine S56 ?_ | refine S65 ?_ | refine S66 ?_ | refine S68 ?_ | refine S93 ?_)
            have hev : h'.tok false % 2 = 0 := HP.tok_even _
            have RY : RowsI (K + 1) (K + 1) (2 * (h'.next + 2)) (ovr tk K (h'.tok false)) (ovr rows K [(k : Int)]) ((((h'.add false [PV.sc (.int .i64 (k : Int))]).add false [.ref (h'.tok false) 0 1 1]).kill T).add false (outI (K + 1) (ovr tk K (h'.tok false)) (ovr rows K [(k : Int)]) (K + 1))) :=
              R2.put (fun j hj e => by omega) hev (by omega) (by show _ < 2 * (h'.next + 3); omega) (by show _ ≤ h'.next + 3; omega) (by omega) (by show _ < 2 * (h'.next + 3); omega) ⟨by omega, fun j hj => by have := R2.lt j hj; omega⟩ (HP.add_same _ _ _)
                (fun j hj _ => by
                  have q1 := R2.lt j hj
                  have q2 := R2.ne j hj
                  exact (HP.add_other _ _ _ (by show _ ≠ 2 * (h'.next + 2); omega)).trans ((HP.kill_other _ q2).trans ((HP.add_other _ _ _ (by omega)).trans (HP.add_other _ _ _ (by omega)))))
                ((HP.add_other _ _ _ (by show _ ≠ 2 * (h'.next + 2); omega)).trans ((HP.kill_other _ (by omega)).trans ((HP.add_other _ _ _ (by omega)).trans (HP.add_same _ _ _))))
            refine ⟨(k + 1, 2 * (h'.next + 2), ovr tk K (h'.tok false)), hk2, ?_, ?_, by simp only; omega⟩
            · simp only
              rw [hfn]
              exact SLx
            · simp only
              rw [hfn]
              exact RY.cong (fun j hj => hrow j hj)
          · have b0 := R2.out
            have hrw := R2.row p hp1
            have hne := R2.ne p hp1
            have hlT := R2.ltT
            have hlt := R2.lt p hp1
            have hcl : ((parK r k).getD p []).length ≤ k := by rw [parK_get hp1]; exact clsK_len _ _ _
            repeat (first | refine S0 ?_ | refine S1 ?_ | refine S2 ?_ | refine S3 ?_ | refine S4 ?_ | refine S5 ?_ | refine S6 ?_ | refine S7 ?_ | refine S8 ?_ | refine S9 ?_ | refine S10 ?_ | refine S11 ?_ | refine S13 ?_ | refine S15 ?_ | refine S16 ?_ | refine S19 ?_ | refine S20 ?_ | refine S21 ?_ | refine S22 ?_ | refine S23 ?_ | refine S25 ?_ | refine S26 ?_ | refine S27 ?_ | refine S28 ?_ | refine S29 ?_ | refine S30 ?_ | refine S32 ?_ | refine S34 ?_ | refine S36 ?_ | refine S37 ?_ | refine S38 ?_ | refine S39 ?_ | refine S40 ?_ | refine S41 ?_ | refine S45 ?_ | refine S46 ?_ | refine S49 ?_ | refine S50 ?_ | refine S56 ?_ | refine S65 ?_ | refine S66 ?_ | refine S68 ?_ | refine S93 ?_)
            rw [show 0 + (p : Int).toNat * 1 = p by simp]
            refine AW.ldm EVx (by first | exact Or.inl rfl | exact Or.inr ⟨rfl, HP.tok_even _⟩ | exact Or.inr (Or.inl ⟨rfl, HP.tok_even _⟩) | exact Or.inr (Or.inr ⟨rfl, HP.tok_odd _⟩) | exact Or.inr (Or.inl rfl) | exact Or.inr (Or.inr (Or.inl rfl)) | exact Or.inr (Or.inr (Or.inr (Or.inl ⟨rfl, HP.tok_odd _⟩))) | exact Or.inr (Or.inr (Or.inr (Or.inr ⟨rfl, HP.tok_even _⟩))) | exact Or.inr (Or.inr (Or.inr (Or.inr ⟨rfl, by assumption⟩))) | exact Or.inr ⟨rfl, by assumption⟩ | exact Or.inr (Or.inl ⟨rfl, by assumption⟩) | exact Or.inr (Or.inr ⟨rfl, by assumption⟩) | exact Or.inr (Or.inr (Or.inr (Or.inl ⟨rfl, by assumption⟩))) | exact Or.inr (Or.inr (Or.inl ⟨rfl, HP.tok_odd _⟩)) | exact Or.inr (Or.inr (Or.inl ⟨rfl, by assumption⟩)) | exact Or.inr (Or.inr (Or.inr rfl)) | exact Or.inr (Or.inr rfl) | exact Or.inr rfl) rfl b0 (outI_get hp1 hp1) ?_
            have hev := R2.ev p hp1
            have hevT := R2.evT
            have htok : h'.tok false = 2 * h'.next := HP.tokF _
            have hpo := parK_old hp1 (of_decide_eq_true hp2)
            have hfn : (fstK r (k + 1)).length = (fstK r k).length := by rw [← parK_len, hpo, List.length_set, parK_len]
            obtain ⟨c, hc⟩ : ∃ c, c = (parK r k).getD p [] := ⟨_, rfl⟩
            have hrow : ∀ j, j < (fstK r k).length → ovr (fun j => (parK r k).getD j []) p (c ++ [(k : Int)]) j = (parK r (k + 1)).getD j [] := fun j hj => by
              rw [hpo, ← hc]
              have hpl := parK_len r k
              by_cases e : j = p
              · rw [e, ovr_same]; simp [List.getD, hpl, hp1]
              · rw [ovr_ne _ _ e]
                simp only [List.getD]
                rw [List.getElem?_set_ne (fun e2 => e e2.symm)]
            have hrw2 : h'.blk (tk p) = some (ints c) := by rw [hc]; exact hrw
            rw [← hc] at hcl
            clear hpo hrw
            rw [← hc]
            iterate 2 (first | refine S0 ?_ | refine S1 ?_ | refine S2 ?_ | refine S3 ?_ | refine S4 ?_ | refine S5 ?_ | refine S6 ?_ | refine S7 ?_ | refine S8 ?_ | refine S9 ?_ | refine S10 ?_ | refine S11 ?_ | refine S13 ?_ | refine S15 ?_ | refine S16 ?_ | refine S19 ?_ | refine S20 ?_ | refine S21 ?_ | refine S22 ?_ | refine S23 ?_ | refine S25 ?_ | refine S26 ?_ | refine S27 ?_ | refine S28 ?_ | refine S29 ?_ | refine S30 ?_ | refine S32 ?_ | refine S34 ?_ | refine S36 ?_ | refine S37 ?_ | refine S38 ?_ | refine S39 ?_ | refine S40 ?_ | refine S41 ?_ | refine S45 ?_ | refine S46 ?_ | refine S49 ?_ | refine S50 ?_ | refine S56 ?_ | refine S65 ?_ | refine S66 ?_ | refine S68 ?_ | refine S93 ?_)
            refine AW.app (off := 0) (r := ints (c ++ [(k : Int)])) (q := (c ++ [(k : Int)]).length) EVx (by first | exact Or.inl rfl | exact Or.inr ⟨rfl, HP.tok_even _⟩ | exact Or.inr (Or.inl ⟨rfl, HP.tok_even _⟩) | exact Or.inr (Or.inr ⟨rfl, HP.tok_odd _⟩) | exact Or.inr (Or.inl rfl) | exact Or.inr (Or.inr (Or.inl rfl)) | exact Or.inr (Or.inr (Or.inr (Or.inl ⟨rfl, HP.tok_odd _⟩))) | exact Or.inr (Or.inr (Or.inr (Or.inr ⟨rfl, HP.tok_even _⟩))) | exact Or.inr (Or.inr (Or.inr (Or.inr ⟨rfl, by assumption⟩))) | exact Or.inr ⟨rfl, by assumption⟩ | exact Or.inr (Or.inl ⟨rfl, by assumption⟩) | exact Or.inr (Or.inr ⟨rfl, by assumption⟩) | exact Or.inr (Or.inr (Or.inr (Or.inl ⟨rfl, by assumption⟩))) | exact Or.inr (Or.inr (Or.inl ⟨rfl, HP.tok_odd _⟩)) | exact Or.inr (Or.inr (Or.inl ⟨rfl, by assumption⟩)) | exact Or.inr (Or.inr (Or.inr rfl)) | exact Or.inr (Or.inr rfl) | exact Or.inr rfl) rfl hrw2 (by first | exact ⟨rfl, rfl, .inr rfl⟩ | exact ⟨rfl, rfl, .inl rfl⟩ | (simp only [evA, upd, putA, Nat.reduceEqDiff, ↓reduceIte]; first | exact ⟨rfl, rfl, .inr rfl⟩ | exact ⟨rfl, rfl, .inl rfl⟩)) (by simp) (by first | exact ints_ones _ | (intro p hp; simp only [List.mem_singleton] at hp; subst hp; rfl) | (intro p hp; simp at hp; subst hp; rfl)) (by first | omega | (simp only [ints_length, bls_length, List.length_map, List.length_append, List.length_set, List.length_cons, List.length_nil, Int.toNat_natCast]; omega)) (by rw [List.drop_zero, Nat.mul_one, List.take_of_length_le (by simp)]; exact ints_append c [(k : Int)]) (by simp) ?_
            (first | refine S0 ?_ | refine S1 ?_ | refine S2 ?_ | refine S3 ?_ | refine S4 ?_ | refine S5 ?_ | refine S6 ?_ | refine S7 ?_ | refine S8 ?_ | refine S9 ?_ | refine S10 ?_ | refine S11 ?_ | refine S13 ?_ | refine S15 ?_ | refine S16 ?_ | refine S19 ?_ | refine S20 ?_ | refine S21 ?_ | refine S22 ?_ | refine S23 ?_ | refine S25 ?_ | refine S26 ?_ | refine S27 ?_ | refine S28 ?_ | refine S29 ?_ | refine S30 ?_ | refine S32 ?_ | refine S34 ?_ | refine S36 ?_ | refine S37 ?_ | refine S38 ?_ | refine S39 ?_ | refine S40 ?_ | refine S41 ?_ | refine S45 ?_ | refine S46 ?_ | refine S49 ?_ | refine S50 ?_ | refine S56 ?_ | refine S65 ?_ | refine S66 ?_ | refine S68 ?_ | refine S93 ?_)
            rw [show 0 + (p : Int).toNat * 1 = p by simp]
            refine AW.stR (r := outI (fstK r k).length (ovr tk p (h'.tok false)) (ovr (fun j => (parK r k).getD j []) p (c ++ [(k : Int)])) (fstK r k).length) EVx (by first | exact Or.inl rfl | exact Or.inr ⟨rfl, HP.tok_even _⟩ | exact Or.inr (Or.inl ⟨rfl, HP.tok_even _⟩) | exact Or.inr (Or.inr ⟨rfl, HP.tok_odd _⟩) | exact Or.inr (Or.inl rfl) | exact Or.inr (Or.inr (Or.inl rfl)) | exact Or.inr (Or.inr (Or.inr (Or.inl ⟨rfl, HP.tok_odd _⟩))) | exact Or.inr (Or.inr (Or.inr (Or.inr ⟨rfl, HP.tok_even _⟩))) | exact Or.inr (Or.inr (Or.inr (Or.inr ⟨rfl, by assumption⟩))) | exact Or.inr ⟨rfl, by assumption⟩ | exact Or.inr (Or.inl ⟨rfl, by assumption⟩) | exact Or.inr (Or.inr ⟨rfl, by assumption⟩) | exact Or.inr (Or.inr (Or.inr (Or.inl ⟨rfl, by assumption⟩))) | exact Or.inr (Or.inr (Or.inl ⟨rfl, HP.tok_odd _⟩)) | exact Or.inr (Or.inr (Or.inl ⟨rfl, by assumption⟩)) | exact Or.inr (Or.inr (Or.inr rfl)) | exact Or.inr (Or.inr rfl) | exact Or.inr rfl) EVx rfl ((HP.add_other _ _ _ (by show _ ≠ 2 * h'.next; omega)).trans ((HP.kill_other _ (fun e => hne e.symm)).trans b0)) (by rw [outI_len]; exact hp1) (by first | rfl | (simp only [PV.one, pint, pfr]; done)) (by rw [← outI_move hp1]) ?_
            repeat (first | refine S0 ?_ | refine S1 ?_ | refine S2 ?_ | refine S3 ?_ | refine S4 ?_ | refine S5 ?_ | refine S6 ?_ | refine S7 ?_ | refine S8 ?_ | refine S9 ?_ | refine S10 ?_ | refine S11 ?_ | refine S13 ?_ | refine S15 ?_ | refine S16 ?_ | refine S19 ?_ | refine S20 ?_ | refine S21 ?_ | refine S22 ?_ | refine S23 ?_ | refine S25 ?_ | refine S26 ?_ | refine S27 ?_ | refine S28 ?_ | refine S29 ?_ | refine S30 ?_ | refine S32 ?_ | refine S34 ?_ | refine S36 ?_ | refine S37 ?_ | refine S38 ?_ | refine S39 ?_ | refine S40 ?_ | refine S41 ?_ | refine S45 ?_ | refine S46 ?_ | refine S49 ?_ | refine S50 ?_ | refine S56 ?_ | refine S65 ?_ | refine S66 ?_ | refine S68 ?_ | refine S93 ?_)
            refine ⟨(k + 1, T, ovr tk p (h'.tok false)), hk2, ?_, ?_, by simp only; omega⟩
            · simp only
              rw [hfn]
              exact SLx
            · simp only
              rw [hfn]
              refine (R2.put (i := p) (T' := h'.tok false) (T2 := T) (r := c ++ [(k : Int)]) (fun j hj e => hj) (HP.tok_even _) (by omega) (by rw [htok]; show _ < 2 * (h'.next + 1); omega) (by show _ ≤ h'.next + 1; omega) hevT (by show _ < 2 * (h'.next + 1); omega) ⟨by omega, fun j hj => R2.ne j hj⟩ (HP.set_same _ _ _) (fun j hj e => ?_) ?_).cong (fun j hj => hrow j hj)
              · have q1 := R2.lt j hj
                have q2 := R2.ne j hj
                exact (HP.set_other _ _ q2).trans ((HP.add_other _ _ _ (by show _ ≠ 2 * h'.next; omega)).trans (HP.kill_other _ (fun e2 => e (R2.inj j p hj hp1 e2))))
              · exact (HP.set_other _ _ (by omega)).trans (HP.add_same _ _ _)
        · obtain hkN : k = N := by omega
          subst hkN
          have hpl := parK_len r k
          refine CW.frzR R (fun h' hb' hf' => ?_)
          have e : ((List.range (fstK r k).length).map fun j => (parK r k).getD j []) = parK r k := by
            rw [← hpl]
            exact List.ext_getElem (by simp) (fun j h1 h2 => by simp [List.getD, h2])
          rw [e] at hb'
          refine CW.freeze 17 (tk := T) (off := 0) (sz := 1) (m := (fstK r k).length) (v := .lst false 1 (parK r k).length ((parK r k).map (LF false))) rfl hb' (by simp [hpl]) (by
            rw [List.drop_zero, Nat.mul_one, List.take_of_length_le (by simp [hpl]), hpl]; rfl) ?_
          have hle := fstK_len r k
          rw [← hpl, ← hMp] at hle
          have kl := lists_g (b1 := true) (b2 := false) (c1 := true) (c2 := false) (a := M) (b := parK r k) (by omega) (by rw [← hMp]; omega)
          rw [decide_eq_true hMp] at kl
          repeat (first | refine S0 ?_ | refine S1 ?_ | refine S2 ?_ | refine S3 ?_ | refine S4 ?_ | refine S5 ?_ | refine S6 ?_ | refine S7 ?_ | refine S8 ?_ | refine S9 ?_ | refine S10 ?_ | refine S11 ?_ | refine S13 ?_ | refine S15 ?_ | refine S16 ?_ | refine S19 ?_ | refine S20 ?_ | refine S21 ?_ | refine S22 ?_ | refine S23 ?_ | refine S25 ?_ | refine S26 ?_ | refine S27 ?_ | refine S28 ?_ | refine S29 ?_ | refine S30 ?_ | refine S32 ?_ | refine S34 ?_ | refine S36 ?_ | refine S37 ?_ | refine S38 ?_ | refine S39 ?_ | refine S40 ?_ | refine S41 ?_ | refine S45 ?_ | refine S46 ?_ | refine S49 ?_ | refine S50 ?_ | refine S56 ?_ | refine S65 ?_ | refine S66 ?_ | refine S68 ?_ | refine S93 ?_)
          refine Scall (args := [.lst true 1 M.length (M.map (LF true)), .lst false 1 (parK r k).length ((parK r k).map (LF false))]) kl ?_ (hc := by simp only [PV.cl.clL, PV.cl, LFs_cl]; rfl)
          rcases hS with ⟨rfl, P, hP, rfl, rfl⟩ | ⟨rfl, rfl, _⟩
          · repeat (first | refine S0 ?_ | refine S1 ?_ | refine S2 ?_ | refine S3 ?_ | refine S4 ?_ | refine S5 ?_ | refine S6 ?_ | refine S7 ?_ | refine S8 ?_ | refine S9 ?_ | refine S10 ?_ | refine S11 ?_ | refine S13 ?_ | refine S15 ?_ | refine S16 ?_ | refine S19 ?_ | refine S20 ?_ | refine S21 ?_ | refine S22 ?_ | refine S23 ?_ | refine S25 ?_ | refine S26 ?_ | refine S27 ?_ | refine S28 ?_ | refine S29 ?_ | refine S30 ?_ | refine S32 ?_ | refine S34 ?_ | refine S36 ?_ | refine S37 ?_ | refine S38 ?_ | refine S39 ?_ | refine S40 ?_ | refine S41 ?_ | refine S45 ?_ | refine S46 ?_ | refine S49 ?_ | refine S50 ?_ | refine S56 ?_ | refine S65 ?_ | refine S66 ?_ | refine S68 ?_ | refine S93 ?_)
            refine Scall (args := [pint k, .lst false 1 gs.length (gL k gs)]) kA ?_
            repeat (first | refine S0 ?_ | refine S1 ?_ | refine S2 ?_ | refine S3 ?_ | refine S4 ?_ | refine S5 ?_ | refine S6 ?_ | refine S7 ?_ | refine S8 ?_ | refine S9 ?_ | refine S10 ?_ | refine S11 ?_ | refine S13 ?_ | refine S15 ?_ | refine S16 ?_ | refine S19 ?_ | refine S20 ?_ | refine S21 ?_ | refine S22 ?_ | refine S23 ?_ | refine S25 ?_ | refine S26 ?_ | refine S27 ?_ | refine S28 ?_ | refine S29 ?_ | refine S30 ?_ | refine S32 ?_ | refine S34 ?_ | refine S36 ?_ | refine S37 ?_ | refine S38 ?_ | refine S39 ?_ | refine S40 ?_ | refine S41 ?_ | refine S45 ?_ | refine S46 ?_ | refine S49 ?_ | refine S50 ?_ | refine S56 ?_ | refine S65 ?_ | refine S66 ?_ | refine S68 ?_ | refine S93 ?_)
            have hkE := kN_len k E
            have hvE := vN_len k E
            obtain ⟨H1, hH1⟩ : ∃ H1, H1 = h'.kill T := ⟨_, rfl⟩
            rw [← hH1]
            obtain ⟨tk0, htk0⟩ : ∃ tk0, tk0 = H1.tok true := ⟨_, rfl⟩
            refine CW.loopS (fun pre : List Nat => pre.Nodup ∧ ∀ i ∈ pre, i < E.length) (fun pre => [(2, pint P), (10, pint ((((E.map (·.1)).filter fun F => decide (F P = P)).length : Nat) : Int)), (20, pint ((pre.filter fun i => decide ((E.getD i (id, [])).1 P = P)).length : Nat)), (141, .itr tk0)])
              (fun pre hp => hp.sp tk0 = some (.giter .int (kN k E) (vN k E) pre) ∧ tk0 < 2 * hp.next) (fun pre => E.length - pre.length) [] ⟨⟨by simp, fun i hi => by cases hi⟩, by rw [htk0]; exact SLx, by rw [htk0]; exact HP.addS_same _ _ _, by rw [htk0]; show 2 * H1.next + 1 < 2 * (H1.next + 1); omega⟩ ?_
            clear hb' hf' R hH1 htk0
            clear t h' H1
            rintro pre t hp ⟨hpd, hpl2⟩ ⟨hs, hlt⟩
            first | simp only [updS] | simp only [updL, Nat.reduceAdd]
            have hcnt : (pre.filter fun i => decide ((E.getD i (id, [])).1 P = P)).length ≤ pre.length := List.length_filter_le _ _
            have hpE := nat_pigeon E.length pre hpd hpl2
            refine CW.nextG rfl hs ?_ ?_
            · intro hall
              have := cnt_all (d := (id, [])) (fun x : El => decide (x.1 P = P)) hpd hpl2 (fun i hi => hall i (by rw [hkE]; exact hi))
              have e2 : ((E.map (·.1)).filter fun F => decide (F P = P)).length = (E.filter fun x : El => decide (x.1 P = P)).length := by
                rw [List.filter_map, List.length_map]; rfl
              rw [this, e2]
              repeat (first | refine S0 ?_ | refine S1 ?_ | refine S2 ?_ | refine S3 ?_ | refine S4 ?_ | refine S5 ?_ | refine S6 ?_ | refine S7 ?_ | refine S8 ?_ | refine S9 ?_ | refine S10 ?_ | refine S11 ?_ | refine S13 ?_ | refine S15 ?_ | refine S16 ?_ | refine S19 ?_ | refine S20 ?_ | refine S21 ?_ | refine S22 ?_ | refine S23 ?_ | refine S25 ?_ | refine S26 ?_ | refine S27 ?_ | refine S28 ?_ | refine S29 ?_ | refine S30 ?_ | refine S32 ?_ | refine S34 ?_ | refine S36 ?_ | refine S37 ?_ | refine S38 ?_ | refine S39 ?_ | refine S40 ?_ | refine S41 ?_ | refine S45 ?_ | refine S46 ?_ | refine S49 ?_ | refine S50 ?_ | refine S56 ?_ | refine S65 ?_ | refine S66 ?_ | refine S68 ?_ | refine S93 ?_)
              exact ⟨.inr rfl, .cl rfl⟩
            · intro i hi hnp
              rw [hkE] at hi
              have hx := mem_getD hi (id, ([] : List Int))
              have hv : (vN k E).getD i .junk = .agg [pli (tabN k (E.getD i (id, [])).1), wv (E.getD i (id, [])).2] := by simp [vN, List.getD, hi]
              have hgP : (tabN k (E.getD i (id, [])).1).getD P 0 = (((E.getD i (id, [])).1 P : Nat) : Int) := tabN_get hP
              have hft : ((pre ++ [i]).filter fun i => decide ((E.getD i (id, [])).1 P = P)).length = (pre.filter fun i => decide ((E.getD i (id, [])).1 P = P)).length + if (E.getD i (id, [])).1 P = P then 1 else 0 := by
                rw [List.filter_append, List.length_append]
                simp only [List.filter_cons, List.filter_nil, decide_eq_true_eq]
                split <;> rfl
              have hnd2 : (pre ++ [i]).Nodup := List.nodup_append.2 ⟨hpd, by simp, fun a ha b hb e => by simp only [List.mem_singleton] at hb; subst hb; exact hnp (e ▸ ha)⟩
              have hpl3 : ∀ j ∈ pre ++ [i], j < E.length := fun j hj => by
                rcases List.mem_append.1 hj with hj | hj
                · exact hpl2 j hj
                · simp only [List.mem_singleton] at hj; omega
              have hpE2 := nat_pigeon E.length _ hnd2 hpl3
              rw [List.length_append, List.length_singleton] at hpE2
              obtain ⟨cn, hcn⟩ : ∃ cn, cn = (pre.filter fun i => decide ((E.getD i (id, [])).1 P = P)).length := ⟨_, rfl⟩
              rw [← hcn] at hft hcnt ⊢
              obtain ⟨x, hxe⟩ : ∃ x, x = E.getD i (id, []) := ⟨_, rfl⟩
              rw [← hxe] at hx hv hgP hft
              obtain ⟨wc, ws, wn, wcs, hwv⟩ : ∃ wc ws wn wcs, wv x.2 = .lst wc ws wn wcs := by unfold wv; split <;> exact ⟨_, _, _, _, rfl⟩
              rw [hwv] at hv
              repeat (first | refine S0 ?_ | refine S1 ?_ | refine S2 ?_ | refine S3 ?_ | refine S4 ?_ | refine S5 ?_ | refine S6 ?_ | refine S7 ?_ | refine S8 ?_ | refine S9 ?_ | refine S10 ?_ | refine S11 ?_ | refine S13 ?_ | refine S15 ?_ | refine S16 ?_ | refine S19 ?_ | refine S20 ?_ | refine S21 ?_ | refine S22 ?_ | refine S23 ?_ | refine S25 ?_ | refine S26 ?_ | refine S27 ?_ | refine S28 ?_ | refine S29 ?_ | refine S30 ?_ | refine S32 ?_ | refine S34 ?_ | refine S36 ?_ | refine S37 ?_ | refine S38 ?_ | refine S39 ?_ | refine S40 ?_ | refine S41 ?_ | refine S45 ?_ | refine S46 ?_ | refine S49 ?_ | refine S50 ?_ | refine S56 ?_ | refine S65 ?_ | refine S66 ?_ | refine S68 ?_ | refine S93 ?_)
              refine AW.gent EVx rfl (HP.setS_same _ _ _) (by rw [hvE]; exact hi) rfl hv ?_
              have hxl := tab_len k x.1
              by_cases c : x.1 P = P
              · rw [if_pos c] at hft
                repeat (first | refine S0 ?_ | refine S1 ?_ | refine S2 ?_ | refine S3 ?_ | refine S4 ?_ | refine S5 ?_ | refine S6 ?_ | refine S7 ?_ | refine S8 ?_ | refine S9 ?_ | refine S10 ?_ | refine S11 ?_ | refine S13 ?_ | refine S15 ?_ | refine S16 ?_ | refine S19 ?_ | refine S20 ?_ | refine S21 ?_ | refine S22 ?_ | refine S23 ?_ | refine S25 ?_ | refine S26 ?_ | refine S27 ?_ | refine S28 ?_ | refine S29 ?_ | refine S30 ?_ | refine S32 ?_ | refine S34 ?_ | refine S36 ?_ | refine S37 ?_ | refine S38 ?_ | refine S39 ?_ | refine S40 ?_ | refine S41 ?_ | refine S45 ?_ | refine S46 ?_ | refine S49 ?_ | refine S50 ?_ | refine S56 ?_ | refine S65 ?_ | refine S66 ?_ | refine S68 ?_ | refine S93 ?_)
                refine ⟨pre ++ [i], ⟨hnd2, hpl3⟩, ?_, ⟨HP.setS_same _ _ _, (by first | omega | (simp only [HP.tokF, HP.tokT, HP.next_add, HP.next_set, HP.next_kill, HP.next_H0, HP.next_addS, HP.next_setS, HP.next_killS, HP.next_put, HP.next_bump, HP.next_putS]; omega))⟩, by rw [List.length_append, List.length_singleton]; omega⟩
                simp only
                rw [hft]
                exact SLx
              · rw [if_neg c] at hft
                repeat (first | refine S0 ?_ | refine S1 ?_ | refine S2 ?_ | refine S3 ?_ | refine S4 ?_ | refine S5 ?_ | refine S6 ?_ | refine S7 ?_ | refine S8 ?_ | refine S9 ?_ | refine S10 ?_ | refine S11 ?_ | refine S13 ?_ | refine S15 ?_ | refine S16 ?_ | refine S19 ?_ | refine S20 ?_ | refine S21 ?_ | refine S22 ?_ | refine S23 ?_ | refine S25 ?_ | refine S26 ?_ | refine S27 ?_ | refine S28 ?_ | refine S29 ?_ | refine S30 ?_ | refine S32 ?_ | refine S34 ?_ | refine S36 ?_ | refine S37 ?_ | refine S38 ?_ | refine S39 ?_ | refine S40 ?_ | refine S41 ?_ | refine S45 ?_ | refine S46 ?_ | refine S49 ?_ | refine S50 ?_ | refine S56 ?_ | refine S65 ?_ | refine S66 ?_ | refine S68 ?_ | refine S93 ?_)
                refine ⟨pre ++ [i], ⟨hnd2, hpl3⟩, ?_, ⟨HP.setS_same _ _ _, (by first | omega | (simp only [HP.tokF, HP.tokT, HP.next_add, HP.next_set, HP.next_kill, HP.next_H0, HP.next_addS, HP.next_setS, HP.next_killS, HP.next_put, HP.next_bump, HP.next_putS]; omega))⟩, by rw [List.length_append, List.length_singleton]; omega⟩
                simp only
                rw [hft]
                exact SLx
          · repeat (first | refine S0 ?_ | refine S1 ?_ | refine S2 ?_ | refine S3 ?_ | refine S4 ?_ | refine S5 ?_ | refine S6 ?_ | refine S7 ?_ | refine S8 ?_ | refine S9 ?_ | refine S10 ?_ | refine S11 ?_ | refine S13 ?_ | refine S15 ?_ | refine S16 ?_ | refine S19 ?_ | refine S20 ?_ | refine S21 ?_ | refine S22 ?_ | refine S23 ?_ | refine S25 ?_ | refine S26 ?_ | refine S27 ?_ | refine S28 ?_ | refine S29 ?_ | refine S30 ?_ | refine S32 ?_ | refine S34 ?_ | refine S36 ?_ | refine S37 ?_ | refine S38 ?_ | refine S39 ?_ | refine S40 ?_ | refine S41 ?_ | refine S45 ?_ | refine S46 ?_ | refine S49 ?_ | refine S50 ?_ | refine S56 ?_ | refine S65 ?_ | refine S66 ?_ | refine S68 ?_ | refine S93 ?_)
            exact ⟨.inr rfl, .cl rfl⟩
  · have ko := Orbits_bad (n := n) (c := false) hb hll h0
    have ks := stabo_bad (n := n) (p := p) (c := false) hb hll h0
    generalize grF n l = y at *
    refine SC.go {} tok mixed Try.func5 rfl rfl Try.ntmps5 rfl rfl (by kernel_rfl) ?_
    first | simp only [updS] | simp only [updL, Nat.reduceAdd]
    repeat (first | refine S0 ?_ | refine S1 ?_ | refine S2 ?_ | refine S3 ?_ | refine S4 ?_ | refine S5 ?_ | refine S6 ?_ | refine S7 ?_ | refine S8 ?_ | refine S9 ?_ | refine S10 ?_ | refine S11 ?_ | refine S13 ?_ | refine S15 ?_ | refine S16 ?_ | refine S19 ?_ | refine S20 ?_ | refine S21 ?_ | refine S22 ?_ | refine S23 ?_ | refine S25 ?_ | refine S26 ?_ | refine S27 ?_ | refine S28 ?_ | refine S29 ?_ | refine S30 ?_ | refine S32 ?_ | refine S34 ?_ | refine S36 ?_ | refine S37 ?_ | refine S38 ?_ | refine S39 ?_ | refine S40 ?_ | refine S41 ?_ | refine S45 ?_ | refine S46 ?_ | refine S49 ?_ | refine S50 ?_ | refine S56 ?_ | refine S65 ?_ | refine S66 ?_ | refine S68 ?_ | refine S93 ?_)
    refine Scall (args := [pint n, .lst false 1 l.length (l.map pli)]) kf ?_
    repeat (first | refine S0 ?_ | refine S1 ?_ | refine S2 ?_ | refine S3 ?_ | refine S4 ?_ | refine S5 ?_ | refine S6 ?_ | refine S7 ?_ | refine S8 ?_ | refine S9 ?_ | refine S10 ?_ | refine S11 ?_ | refine S13 ?_ | refine S15 ?_ | refine S16 ?_ | refine S19 ?_ | refine S20 ?_ | refine S21 ?_ | refine S22 ?_ | refine S23 ?_ | refine S25 ?_ | refine S26 ?_ | refine S27 ?_ | refine S28 ?_ | refine S29 ?_ | refine S30 ?_ | refine S32 ?_ | refine S34 ?_ | refine S36 ?_ | refine S37 ?_ | refine S38 ?_ | refine S39 ?_ | refine S40 ?_ | refine S41 ?_ | refine S45 ?_ | refine S46 ?_ | refine S49 ?_ | refine S50 ?_ | refine S56 ?_ | refine S65 ?_ | refine S66 ?_ | refine S68 ?_ | refine S93 ?_)
    refine Scall (args := []) kG ?_
    by_cases h6 : 6 < n
    · repeat (first | refine S0 ?_ | refine S1 ?_ | refine S2 ?_ | refine S3 ?_ | refine S4 ?_ | refine S5 ?_ | refine S6 ?_ | refine S7 ?_ | refine S8 ?_ | refine S9 ?_ | refine S10 ?_ | refine S11 ?_ | refine S13 ?_ | refine S15 ?_ | refine S16 ?_ | refine S19 ?_ | refine S20 ?_ | refine S21 ?_ | refine S22 ?_ | refine S23 ?_ | refine S25 ?_ | refine S26 ?_ | refine S27 ?_ | refine S28 ?_ | refine S29 ?_ | refine S30 ?_ | refine S32 ?_ | refine S34 ?_ | refine S36 ?_ | refine S37 ?_ | refine S38 ?_ | refine S39 ?_ | refine S40 ?_ | refine S41 ?_ | refine S45 ?_ | refine S46 ?_ | refine S49 ?_ | refine S50 ?_ | refine S56 ?_ | refine S65 ?_ | refine S66 ?_ | refine S68 ?_ | refine S93 ?_)
      refine Scall (args := [pint n, .lst false 1 l.length (l.map pli)]) ko ?_
      repeat (first | refine S0 ?_ | refine S1 ?_ | refine S2 ?_ | refine S3 ?_ | refine S4 ?_ | refine S5 ?_ | refine S6 ?_ | refine S7 ?_ | refine S8 ?_ | refine S9 ?_ | refine S10 ?_ | refine S11 ?_ | refine S13 ?_ | refine S15 ?_ | refine S16 ?_ | refine S19 ?_ | refine S20 ?_ | refine S21 ?_ | refine S22 ?_ | refine S23 ?_ | refine S25 ?_ | refine S26 ?_ | refine S27 ?_ | refine S28 ?_ | refine S29 ?_ | refine S30 ?_ | refine S32 ?_ | refine S34 ?_ | refine S36 ?_ | refine S37 ?_ | refine S38 ?_ | refine S39 ?_ | refine S40 ?_ | refine S41 ?_ | refine S45 ?_ | refine S46 ?_ | refine S49 ?_ | refine S50 ?_ | refine S56 ?_ | refine S65 ?_ | refine S66 ?_ | refine S68 ?_ | refine S93 ?_)
      refine Scall (args := [pint n, .lst false 1 l.length (l.map pli), pint p]) ks ?_
      repeat (first | refine S0 ?_ | refine S1 ?_ | refine S2 ?_ | refine S3 ?_ | refine S4 ?_ | refine S5 ?_ | refine S6 ?_ | refine S7 ?_ | refine S8 ?_ | refine S9 ?_ | refine S10 ?_ | refine S11 ?_ | refine S13 ?_ | refine S15 ?_ | refine S16 ?_ | refine S19 ?_ | refine S20 ?_ | refine S21 ?_ | refine S22 ?_ | refine S23 ?_ | refine S25 ?_ | refine S26 ?_ | refine S27 ?_ | refine S28 ?_ | refine S29 ?_ | refine S30 ?_ | refine S32 ?_ | refine S34 ?_ | refine S36 ?_ | refine S37 ?_ | refine S38 ?_ | refine S39 ?_ | refine S40 ?_ | refine S41 ?_ | refine S45 ?_ | refine S46 ?_ | refine S49 ?_ | refine S50 ?_ | refine S56 ?_ | refine S65 ?_ | refine S66 ?_ | refine S68 ?_ | refine S93 ?_)
      exact ⟨.inr rfl, .cl rfl⟩
    · repeat (first | refine S0 ?_ | refine S1 ?_ | refine S2 ?_ | refine S3 ?_ | refine S4 ?_ | refine S5 ?_ | refine S6 ?_ | refine S7 ?_ | refine S8 ?_ | refine S9 ?_ | refine S10 ?_ | refine S11 ?_ | refine S13 ?_ | refine S15 ?_ | refine S16 ?_ | refine S19 ?_ | refine S20 ?_ | refine S21 ?_ | refine S22 ?_ | refine S23 ?_ | refine S25 ?_ | refine S26 ?_ | refine S27 ?_ | refine S28 ?_ | refine S29 ?_ | refine S30 ?_ | refine S32 ?_ | refine S34 ?_ | refine S36 ?_ | refine S37 ?_ | refine S38 ?_ | refine S39 ?_ | refine S40 ?_ | refine S41 ?_ | refine S45 ?_ | refine S46 ?_ | refine S49 ?_ | refine S50 ?_ | refine S56 ?_ | refine S65 ?_ | refine S66 ?_ | refine S68 ?_ | refine S93 ?_)
      refine Scall (args := [pint n, .lst false 1 l.length (l.map pli)]) ko ?_
      repeat (first | refine S0 ?_ | refine S1 ?_ | refine S2 ?_ | refine S3 ?_ | refine S4 ?_ | refine S5 ?_ | refine S6 ?_ | refine S7 ?_ | refine S8 ?_ | refine S9 ?_ | refine S10 ?_ | refine S11 ?_ | refine S13 ?_ | refine S15 ?_ | refine S16 ?_ | refine S19 ?_ | refine S20 ?_ | refine S21 ?_ | refine S22 ?_ | refine S23 ?_ | refine S25 ?_ | refine S26 ?_ | refine S27 ?_ | refine S28 ?_ | refine S29 ?_ | refine S30 ?_ | refine S32 ?_ | refine S34 ?_ | refine S36 ?_ | refine S37 ?_ | refine S38 ?_ | refine S39 ?_ | refine S40 ?_ | refine S41 ?_ | refine S45 ?_ | refine S46 ?_ | refine S49 ?_ | refine S50 ?_ | refine S56 ?_ | refine S65 ?_ | refine S66 ?_ | refine S68 ?_ | refine S93 ?_)
      refine Scall (args := [pint n, .lst false 1 l.length (l.map pli), pint p]) ks ?_
      repeat (first | refine S0 ?_ | refine S1 ?_ | refine S2 ?_ | refine S3 ?_ | refine S4 ?_ | refine S5 ?_ | refine S6 ?_ | refine S7 ?_ | refine S8 ?_ | refine S9 ?_ | refine S10 ?_ | refine S11 ?_ | refine S13 ?_ | refine S15 ?_ | refine S16 ?_ | refine S19 ?_ | refine S20 ?_ | refine S21 ?_ | refine S22 ?_ | refine S23 ?_ | refine S25 ?_ | refine S26 ?_ | refine S27 ?_ | refine S28 ?_ | refine S29 ?_ | refine S30 ?_ | refine S32 ?_ | refine S34 ?_ | refine S36 ?_ | refine S37 ?_ | refine S38 ?_ | refine S39 ?_ | refine S40 ?_ | refine S41 ?_ | refine S45 ?_ | refine S46 ?_ | refine S49 ?_ | refine S50 ?_ | refine S56 ?_ | refine S65 ?_ | refine S66 ?_ | refine S68 ?_ | refine S93 ?_)
      exact ⟨.inr rfl, .cl rfl⟩
end Go.Proofs.Ythacglggkgmbhaa
