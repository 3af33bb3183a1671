/- permgroup.Factor; the facts that the laws begin with. No condition of its own. -/
import Derived.Test.YthacglggkgmbhaaGGroupOrbitsBR
set_option linter.unusedVariables false
set_option linter.unusedSimpArgs false
namespace Go.Proofs.Ythacglggkgmbhaa
open Go.RowKit

theorem be_fac {n : Nat} {gs : List Fn} {E : List El} (B : Be n gs E) : E.length ≤ fac n := by
  have h1 := nat_pigeon (fac n) (E.map fun x => number (tabN n x.1)) (by
    have hB := B.nd
    unfold List.Nodup at hB ⊢
    rw [List.pairwise_map] at hB ⊢
    refine List.Pairwise.imp_of_mem ?_ hB
    intro a b ha hb hne e
    exact hne (number_inj (B.ok a ha).1 (B.ok b hb).1 e)) (fun z hz => by
    obtain ⟨x, hx, rfl⟩ := List.mem_map.1 hz
    have hp := (B.ok x hx).1.isP.pm
    have := (numGo_bd (tabN n x.1) (idRow n) 0 (by have := perm_idRow hp.rng hp.nd; rwa [tab_len] at this)).2
    rw [idRow_len] at this
    unfold number
    rw [tab_len]
    omega)
  simpa using h1
theorem fac6 {n : Nat} (hn : n ≤ 6) : fac n ≤ 720 := Nat.le_trans (fac_le hn) (by decide)
/-- what Factor answers -/
def faF (E : List El) (p : Fn) : PV → Prop := fun r => (∃ x, x ∈ E ∧ x.1 = p ∧ r = .tup [pli x.2, pint 0]) ∨ p ∉ E.map (·.1) ∧ r = .tup [.lst true 0 0 [], pint 4]
set_option maxHeartbeats 8000000 in
set_option maxRecDepth 100000 in
theorem gfac_ok {n : Nat} (hn : n ≤ 6) {c : Bool} {gs : List Fn} (hg : ∀ g ∈ gs, Pe n g) (hl : gs.length ≤ 6) (h0 : SC Try.prog 13 [pint n, .lst c 1 gs.length (gL n gs)] (pint 0)) {p : Fn} (hp : Pe n p) (h1 : SC Try.prog 13 [pint n, .lst true 1 1 [pli (tabN n p)]] (pint 0)) {E : List El} (hE : ∃ i, i = (bfs n gs i).length ∧ E = bfs n gs i) {r : PV} (hr : faF E p r) :
    SC Try.prog 8 [pint n, .lst c 1 gs.length (gL n gs), pli (tabN n p)] r := by
  obtain ⟨i, hi, hEi⟩ := hE
  have hB := Be.bfs hg i
  have ko := gorder_ok (n := n) (by omega) hg hl h0 hB.nd (bfs_all (by omega) hg hi)
  have hlen := be_fac hB
  have hf := fac6 hn
  rw [List.length_map] at ko
  rcases hr with ⟨x, x1, x2, rfl⟩ | ⟨x1, rfl⟩
  · have ks := search_s hn (c := c) hg hl hp ⟨i, hi, hEi⟩ (.inl ⟨x, x1, x2, rfl⟩)
    refine SC.go {} tok mixed Try.func8 rfl rfl Try.ntmps8 rfl rfl (by kernel_rfl) ?_
    first | simp only [updS] | simp only [updL, Nat.reduceAdd]
    repeat (first | refine S0 ?_ | refine S1 ?_ | refine S2 ?_ | refine S5 ?_ | refine S7 ?_ | refine S8 ?_ | refine S9 ?_ | refine S15 ?_ | refine S16 ?_ | refine S19 ?_ | refine S20 ?_ | refine S28 ?_ | refine S29 ?_ | refine S30 ?_ | refine S34 ?_ | refine S36 ?_ | refine S37 ?_ | refine S40 ?_ | refine S49 ?_)
    refine Scall (args := [pint n, .lst c 1 gs.length (gL n gs)]) ko ?_
    repeat (first | refine S0 ?_ | refine S1 ?_ | refine S2 ?_ | refine S5 ?_ | refine S7 ?_ | refine S8 ?_ | refine S9 ?_ | refine S15 ?_ | refine S16 ?_ | refine S19 ?_ | refine S20 ?_ | refine S28 ?_ | refine S29 ?_ | refine S30 ?_ | refine S34 ?_ | refine S36 ?_ | refine S37 ?_ | refine S40 ?_ | refine S49 ?_)
    refine Scall (args := [pint n, .lst true 1 1 [pli (tabN n p)]]) h1 ?_
    repeat (first | refine S0 ?_ | refine S1 ?_ | refine S2 ?_ | refine S5 ?_ | refine S7 ?_ | refine S8 ?_ | refine S9 ?_ | refine S15 ?_ | refine S16 ?_ | refine S19 ?_ | refine S20 ?_ | refine S28 ?_ | refine S29 ?_ | refine S30 ?_ | refine S34 ?_ | refine S36 ?_ | refine S37 ?_ | refine S40 ?_ | refine S49 ?_)
    refine Scall (args := [pint n, .lst c 1 gs.length (gL n gs), pli (tabN n p)]) ks ?_
    repeat (first | refine S0 ?_ | refine S1 ?_ | refine S2 ?_ | refine S5 ?_ | refine S7 ?_ | refine S8 ?_ | refine S9 ?_ | refine S15 ?_ | refine S16 ?_ | refine S19 ?_ | refine S20 ?_ | refine S28 ?_ | refine S29 ?_ | refine S30 ?_ | refine S34 ?_ | refine S36 ?_ | refine S37 ?_ | refine S40 ?_ | refine S49 ?_)
    exact ⟨.inr rfl, Fz.pairR (.cl (pli_cl _)) (.cl rfl)⟩
  · have ks := search_s hn (c := c) hg hl hp ⟨i, hi, hEi⟩ (.inr ⟨x1, rfl⟩)
    refine SC.go {} tok mixed Try.func8 rfl rfl Try.ntmps8 rfl rfl (by kernel_rfl) ?_
    first | simp only [updS] | simp only [updL, Nat.reduceAdd]
    repeat (first | refine S0 ?_ | refine S1 ?_ | refine S2 ?_ | refine S5 ?_ | refine S7 ?_ | refine S8 ?_ | refine S9 ?_ | refine S15 ?_ | refine S16 ?_ | refine S19 ?_ | refine S20 ?_ | refine S28 ?_ | refine S29 ?_ | refine S30 ?_ | refine S34 ?_ | refine S36 ?_ | refine S37 ?_ | refine S40 ?_ | refine S49 ?_)
    refine Scall (args := [pint n, .lst c 1 gs.length (gL n gs)]) ko ?_
    repeat (first | refine S0 ?_ | refine S1 ?_ | refine S2 ?_ | refine S5 ?_ | refine S7 ?_ | refine S8 ?_ | refine S9 ?_ | refine S15 ?_ | refine S16 ?_ | refine S19 ?_ | refine S20 ?_ | refine S28 ?_ | refine S29 ?_ | refine S30 ?_ | refine S34 ?_ | refine S36 ?_ | refine S37 ?_ | refine S40 ?_ | refine S49 ?_)
    refine Scall (args := [pint n, .lst true 1 1 [pli (tabN n p)]]) h1 ?_
    repeat (first | refine S0 ?_ | refine S1 ?_ | refine S2 ?_ | refine S5 ?_ | refine S7 ?_ | refine S8 ?_ | refine S9 ?_ | refine S15 ?_ | refine S16 ?_ | refine S19 ?_ | refine S20 ?_ | refine S28 ?_ | refine S29 ?_ | refine S30 ?_ | refine S34 ?_ | refine S36 ?_ | refine S37 ?_ | refine S40 ?_ | refine S49 ?_)
    refine Scall (args := [pint n, .lst c 1 gs.length (gL n gs), pli (tabN n p)]) ks ?_
    repeat (first | refine S0 ?_ | refine S1 ?_ | refine S2 ?_ | refine S5 ?_ | refine S7 ?_ | refine S8 ?_ | refine S9 ?_ | refine S15 ?_ | refine S16 ?_ | refine S19 ?_ | refine S20 ?_ | refine S28 ?_ | refine S29 ?_ | refine S30 ?_ | refine S34 ?_ | refine S36 ?_ | refine S37 ?_ | refine S40 ?_ | refine S49 ?_)
    exact ⟨.inr rfl, .cl rfl⟩
/-- the search ends -/
theorem bfs_end {n : Nat} (hn : n ≤ 9) {gs : List Fn} (hg : ∀ g ∈ gs, Pe n g) : ∃ i, i = (bfs n gs i).length := by
  apply Classical.byContradiction
  intro hno
  have key : ∀ i, i < (bfs n gs i).length := fun i => by
    induction i with
    | zero => simp [bfs]
    | succ i ih =>
      obtain ⟨D, hD⟩ := bfs_mono n gs i
      have : (bfs n gs i).length ≤ (bfs n gs (i + 1)).length := by rw [hD, List.length_append]; omega
      have h2 : i + 1 ≠ (bfs n gs (i + 1)).length := fun h => hno ⟨_, h⟩
      omega
  have h1 := key 387420489
  have h2 := bfs_len hn hg (Be.bfs hg 387420489)
  omega
/-! ### an example -/
def sA : Fn := fun i => if i = 0 then 1 else if i = 1 then 0 else i
def sB : Fn := fun i => if i = 1 then 2 else if i = 2 then 1 else i
theorem lt3 {i : Nat} (h : i < 3) : i = 0 ∨ i = 1 ∨ i = 2 := by omega
theorem sA_pe : Pe 3 sA := by
  refine ⟨fun i hi => ?_, fun i j hi hj e => ?_, fun i hi => by unfold sA; rw [if_neg (by omega), if_neg (by omega)]⟩
  · rcases lt3 hi with rfl | rfl | rfl <;> decide
  · rcases lt3 hi with rfl | rfl | rfl <;> rcases lt3 hj with rfl | rfl | rfl <;> first | rfl | exact absurd e (by decide)
theorem sB_pe : Pe 3 sB := by
  refine ⟨fun i hi => ?_, fun i j hi hj e => ?_, fun i hi => by unfold sB; rw [if_neg (by omega), if_neg (by omega)]⟩
  · rcases lt3 hi with rfl | rfl | rfl <;> decide
  · rcases lt3 hi with rfl | rfl | rfl <;> rcases lt3 hj with rfl | rfl | rfl <;> first | rfl | exact absurd e (by decide)
theorem sAB_pe : ∀ g ∈ [sA, sB], Pe 3 g := fun g hg => by
  rcases List.mem_cons.1 hg with rfl | hg
  · exact sA_pe
  · simp only [List.mem_singleton] at hg; subst hg; exact sB_pe
theorem ex_len : (bfs 3 [sA, sB] 6).length = 6 := by kernel_rfl
theorem ex_word : ((bfs 3 [sA, sB] 6).getD 5 (id, [])).2 = [1, 2, 1] := by kernel_rfl
theorem ex_tab : tabN 3 ((bfs 3 [sA, sB] 6).getD 5 (id, [])).1 = [2, 1, 0] := by kernel_rfl
theorem wk_plt (xs : List Int) : Wea (plt xs) (pli xs) := .lst rfl (fun _ _ => .refl _)
theorem wk_two (a b : List Int) : Wea (.lst true 1 2 [plt a, plt b]) (.lst false 1 2 [pli a, pli b]) := .lst rfl (fun i hi => by
  match i, hi with
  | 0, _ => exact wk_plt a
  | 1, _ => exact wk_plt b
  | i + 2, h => simp at h; omega)
theorem exG : gL 3 [sA, sB] = [pli [1, 0, 2], pli [0, 2, 1]] := by
  have h1 : tabN 3 sA = [1, 0, 2] := by kernel_rfl
  have h2 : tabN 3 sB = [0, 2, 1] := by kernel_rfl
  simp only [gL, List.map_cons, List.map_nil, h1, h2]
theorem in64_small {l : List Int} (h : ∀ x ∈ l, 0 ≤ x ∧ x < 10) : ∀ x ∈ l, in64 x := fun x hx => in64_of (by have := h x hx; omega)
set_option maxHeartbeats 8000000 in
set_option maxRecDepth 100000 in
theorem grouped_s : SC Try.prog 7 [] (.sc (.bool true)) := by
  have hg := sAB_pe
  have hB := Be.bfs hg 6
  have h6 : 6 = (bfs 3 [sA, sB] 6).length := ex_len.symm
  have kc := gcheck_s 3 (c := false) (l := [[1, 0, 2], [0, 2, 1]]) (fun r hr => by
    rcases List.mem_cons.1 hr with rfl | hr
    · exact in64_small (by decide)
    · simp only [List.mem_singleton] at hr; subst hr; exact in64_small (by decide)) (by decide)
  rw [show grF 3 [[1, 0, 2], [0, 2, 1]] = 0 by kernel_rfl] at kc
  have kc2 := gcheck_s 3 (c := true) (l := [[2, 1, 0]]) (fun r hr => by
    simp only [List.mem_singleton] at hr; subst hr; exact in64_small (by decide)) (by decide)
  rw [show grF 3 [[2, 1, 0]] = 0 by kernel_rfl] at kc2
  have h0 : SC Try.prog 13 [pint (3 : Nat), .lst false 1 [sA, sB].length (gL 3 [sA, sB])] (pint 0) := by rw [exG]; exact kc
  have hx : (bfs 3 [sA, sB] 6).getD 5 (id, []) ∈ bfs 3 [sA, sB] 6 := mem_getD (by rw [ex_len]; omega) _
  have ko := gorder_ok (n := 3) (by omega) hg (by decide) h0 hB.nd (bfs_all (by omega) hg h6)
  rw [List.length_map, ex_len, exG] at ko
  have h1 : SC Try.prog 13 [pint (3 : Nat), .lst true 1 1 [pli (tabN 3 ((bfs 3 [sA, sB] 6).getD 5 (id, [])).1)]] (pint 0) := by rw [ex_tab]; exact kc2
  have kf := gfac_ok (n := 3) (by omega) hg (by decide) h0 (hB.ok _ hx).1 h1 ⟨6, h6, rfl⟩ (r := .tup [pli ((bfs 3 [sA, sB] 6).getD 5 (id, [])).2, pint 0]) (.inl ⟨_, hx, rfl, rfl⟩)
  rw [ex_tab, ex_word, exG] at kf
  have ko2 : SC Try.prog 14 [pint 3, .lst true 1 2 [plt [1, 0, 2], plt [0, 2, 1]]] (.tup [pint 6, pint 0]) := SC.wk ko rfl (fun i hi => by
    match i, hi with
    | 0, _ => exact .refl _
    | 1, _ => exact wk_two _ _
    | i + 2, h => simp at h; omega)
  have kf2 : SC Try.prog 8 [pint 3, .lst true 1 2 [plt [1, 0, 2], plt [0, 2, 1]], plt [2, 1, 0]] (.tup [pli [1, 2, 1], pint 0]) := SC.wk kf rfl (fun i hi => by
    match i, hi with
    | 0, _ => exact .refl _
    | 1, _ => exact wk_two _ _
    | 2, _ => exact wk_plt _
    | i + 3, h => simp at h; omega)
  have ke : SC Try.prog 11 [pli [1, 2, 1], plt [1, 2, 1]] (.sc (.bool true)) := SC.weak (equal_refl [1, 2, 1]) rfl
  clear hB h6 kc kc2 h0 hx ko h1 kf hg
  refine SC.go {} tok mixed Try.func7 rfl rfl Try.ntmps7 rfl rfl (by kernel_rfl) ?_
  first | simp only [updS] | simp only [updL, Nat.reduceAdd]
  repeat (first | refine S0 ?_ | refine S1 ?_ | refine S2 ?_ | refine S5 ?_ | refine S7 ?_ | refine S8 ?_ | refine S9 ?_ | refine S15 ?_ | refine S16 ?_ | refine S19 ?_ | refine S20 ?_ | refine S28 ?_ | refine S29 ?_ | refine S30 ?_ | refine S34 ?_ | refine S36 ?_ | refine S37 ?_ | refine S40 ?_ | refine S49 ?_)
  refine Scall (args := [pint 3, .lst true 1 2 [plt [1, 0, 2], plt [0, 2, 1]]]) ko2 ?_
  repeat (first | refine S0 ?_ | refine S1 ?_ | refine S2 ?_ | refine S5 ?_ | refine S7 ?_ | refine S8 ?_ | refine S9 ?_ | refine S15 ?_ | refine S16 ?_ | refine S19 ?_ | refine S20 ?_ | refine S28 ?_ | refine S29 ?_ | refine S30 ?_ | refine S34 ?_ | refine S36 ?_ | refine S37 ?_ | refine S40 ?_ | refine S49 ?_)
  refine Scall (args := [pint 3, .lst true 1 2 [plt [1, 0, 2], plt [0, 2, 1]], plt [2, 1, 0]]) kf2 ?_
  repeat (first | refine S0 ?_ | refine S1 ?_ | refine S2 ?_ | refine S5 ?_ | refine S7 ?_ | refine S8 ?_ | refine S9 ?_ | refine S15 ?_ | refine S16 ?_ | refine S19 ?_ | refine S20 ?_ | refine S28 ?_ | refine S29 ?_ | refine S30 ?_ | refine S34 ?_ | refine S36 ?_ | refine S37 ?_ | refine S40 ?_ | refine S49 ?_)
  refine Scall (args := [pli [1, 2, 1], plt [1, 2, 1]]) ke ?_
  repeat (first | refine S0 ?_ | refine S1 ?_ | refine S2 ?_ | refine S5 ?_ | refine S7 ?_ | refine S8 ?_ | refine S9 ?_ | refine S15 ?_ | refine S16 ?_ | refine S19 ?_ | refine S20 ?_ | refine S28 ?_ | refine S29 ?_ | refine S30 ?_ | refine S34 ?_ | refine S36 ?_ | refine S37 ?_ | refine S40 ?_ | refine S49 ?_)
  exact ⟨.inr rfl, .cl rfl⟩
end Go.Proofs.Ythacglggkgmbhaa
