/- The law GroupFactors holds for all numbers and lists. No condition of its own. -/
import Derived.Test.YthacglggkgmbhaaGGroupFactorsBX
set_option linter.unusedVariables false
set_option linter.unusedSimpArgs false
namespace Go.Proofs.Ythacglggkgmbhaa
open Go.RowKit

set_option maxHeartbeats 8000000 in
set_option maxRecDepth 100000 in
theorem gfac_bad3 {n : Nat} (hn : n ≤ 9) {c : Bool} {gs : List Fn} (hg : ∀ g ∈ gs, Pe n g) (hl : gs.length ≤ 6) (h0 : SC Try.prog 13 [pint n, .lst c 1 gs.length (gL n gs)] (pint 0)) {p : List Int} (hp : ∀ x ∈ p, in64 x) (h1 : grF n [p] ≠ 0) :
    SC Try.prog 8 [pint n, .lst c 1 gs.length (gL n gs), pli p] (.tup [.lst true 0 0 [], pint (grF n [p])]) := by
  obtain ⟨i, hi⟩ := bfs_end hn hg
  have hB := Be.bfs hg i
  have ko := gorder_ok hn hg hl h0 hB.nd (bfs_all hn hg hi)
  have hlen := bfs_len hn hg hB
  have k2 := gcheck_s n (c := true) (l := [p]) (fun r hr x hx => by simp only [List.mem_singleton] at hr; subst hr; exact hp x hx) (by simp)
  rw [List.length_map] at ko
  refine SC.go {} tok mixed Try.func8 rfl rfl Try.ntmps8 rfl rfl (by kernel_rfl) ?_
  first | simp only [updS] | simp only [updL, Nat.reduceAdd]
  repeat (first | refine S0 ?_ | refine S1 ?_ | refine S2 ?_ | refine S5 ?_ | refine S7 ?_ | refine S8 ?_ | refine S9 ?_ | refine S15 ?_ | refine S16 ?_ | refine S19 ?_ | refine S20 ?_ | refine S28 ?_ | refine S29 ?_ | refine S30 ?_ | refine S34 ?_ | refine S36 ?_ | refine S37 ?_ | refine S38 ?_ | refine S40 ?_ | refine S41 ?_ | refine S45 ?_ | refine S46 ?_ | refine S49 ?_ | refine S66 ?_ | refine S68 ?_ | refine S91 ?_)
  refine Scall (args := [pint n, .lst c 1 gs.length (gL n gs)]) ko ?_
  repeat (first | refine S0 ?_ | refine S1 ?_ | refine S2 ?_ | refine S5 ?_ | refine S7 ?_ | refine S8 ?_ | refine S9 ?_ | refine S15 ?_ | refine S16 ?_ | refine S19 ?_ | refine S20 ?_ | refine S28 ?_ | refine S29 ?_ | refine S30 ?_ | refine S34 ?_ | refine S36 ?_ | refine S37 ?_ | refine S38 ?_ | refine S40 ?_ | refine S41 ?_ | refine S45 ?_ | refine S46 ?_ | refine S49 ?_ | refine S66 ?_ | refine S68 ?_ | refine S91 ?_)
  refine Scall (args := [pint n, .lst true 1 1 [pli p]]) k2 ?_
  generalize grF n [p] = y at *
  repeat (first | refine S0 ?_ | refine S1 ?_ | refine S2 ?_ | refine S5 ?_ | refine S7 ?_ | refine S8 ?_ | refine S9 ?_ | refine S15 ?_ | refine S16 ?_ | refine S19 ?_ | refine S20 ?_ | refine S28 ?_ | refine S29 ?_ | refine S30 ?_ | refine S34 ?_ | refine S36 ?_ | refine S37 ?_ | refine S38 ?_ | refine S40 ?_ | refine S41 ?_ | refine S45 ?_ | refine S46 ?_ | refine S49 ?_ | refine S66 ?_ | refine S68 ?_ | refine S91 ?_)
  exact ⟨.inr rfl, .cl rfl⟩
theorem nilE {P : Program} {f : FuncId} {r : PV} (h : SC P f [pli [], pli []] r) : SC P f [.lst true 0 0 [], .lst true 0 0 []] r := SC.weak h rfl
theorem wvE {P : Program} {f : FuncId} {r : PV} {w : List Int} (h : SC P f [pli w, pli w] r) : SC P f [pli w, wv w] r := SC.weak h (by simp only [List.map_cons, List.map_nil, wv_nrm]; cases w <;> rfl)
set_option maxHeartbeats 16000000 in
set_option maxRecDepth 100000 in
theorem gfactors_s (n : Int) {l : List (List Int)} {p : List Int} (hb : ∀ r ∈ l, ∀ x ∈ r, in64 x) (hp : ∀ x ∈ p, in64 x) : SC Try.prog 3 [pint n, .lst false 1 l.length (l.map pli), pli p] (.sc (.bool true)) := by
  refine SC.len (callable Try.func3 rfl rfl) (fun hlen => ?_)
  have hll : l.length ≤ 9223372036854775807 := hlen (.lst false 1 l.length (l.map pli)) (by simp)
  clear hlen
  have kG := grouped_s
  have km := member_s n (c := false) hb hp hll
  have kc := gcheck_s n (c := false) hb hll
  have ke := nilE (equal_refl [])
  by_cases h0 : grF n l = 0
  · rw [if_pos h0] at km
    rw [h0] at kc
    obtain ⟨N, gs, rfl, hN, hl6, hg, rfl⟩ := grF_ok h0
    rw [List.length_map, gL_map] at *
    by_cases h1 : grF N [p] = 0
    · rw [h1] at km
      by_cases h6 : 6 < N
      · refine SC.go {} tok mixed Try.func3 rfl rfl Try.ntmps3 rfl rfl (by kernel_rfl) ?_
        first | simp only [updS] | simp only [updL, Nat.reduceAdd]
        repeat (first | refine S0 ?_ | refine S1 ?_ | refine S2 ?_ | refine S5 ?_ | refine S7 ?_ | refine S8 ?_ | refine S9 ?_ | refine S15 ?_ | refine S16 ?_ | refine S19 ?_ | refine S20 ?_ | refine S28 ?_ | refine S29 ?_ | refine S30 ?_ | refine S34 ?_ | refine S36 ?_ | refine S37 ?_ | refine S38 ?_ | refine S40 ?_ | refine S41 ?_ | refine S45 ?_ | refine S46 ?_ | refine S49 ?_ | refine S66 ?_ | refine S68 ?_ | refine S91 ?_)
        refine Scall (args := [pint N, .lst false 1 gs.length (gL N gs), pli p]) km ?_
        repeat (first | refine S0 ?_ | refine S1 ?_ | refine S2 ?_ | refine S5 ?_ | refine S7 ?_ | refine S8 ?_ | refine S9 ?_ | refine S15 ?_ | refine S16 ?_ | refine S19 ?_ | refine S20 ?_ | refine S28 ?_ | refine S29 ?_ | refine S30 ?_ | refine S34 ?_ | refine S36 ?_ | refine S37 ?_ | refine S38 ?_ | refine S40 ?_ | refine S41 ?_ | refine S45 ?_ | refine S46 ?_ | refine S49 ?_ | refine S66 ?_ | refine S68 ?_ | refine S91 ?_)
        refine Scall (args := []) kG ?_
        repeat (first | refine S0 ?_ | refine S1 ?_ | refine S2 ?_ | refine S5 ?_ | refine S7 ?_ | refine S8 ?_ | refine S9 ?_ | refine S15 ?_ | refine S16 ?_ | refine S19 ?_ | refine S20 ?_ | refine S28 ?_ | refine S29 ?_ | refine S30 ?_ | refine S34 ?_ | refine S36 ?_ | refine S37 ?_ | refine S38 ?_ | refine S40 ?_ | refine S41 ?_ | refine S45 ?_ | refine S46 ?_ | refine S49 ?_ | refine S66 ?_ | refine S68 ?_ | refine S91 ?_)
        refine Scall (args := []) kG ?_
        repeat (first | refine S0 ?_ | refine S1 ?_ | refine S2 ?_ | refine S5 ?_ | refine S7 ?_ | refine S8 ?_ | refine S9 ?_ | refine S15 ?_ | refine S16 ?_ | refine S19 ?_ | refine S20 ?_ | refine S28 ?_ | refine S29 ?_ | refine S30 ?_ | refine S34 ?_ | refine S36 ?_ | refine S37 ?_ | refine S38 ?_ | refine S40 ?_ | refine S41 ?_ | refine S45 ?_ | refine S46 ?_ | refine S49 ?_ | refine S66 ?_ | refine S68 ?_ | refine S91 ?_)
        exact ⟨.inr rfl, .cl rfl⟩
      · obtain ⟨i, hi⟩ := bfs_end hN hg
        have hB := Be.bfs hg i
        have kA := group_s hN (c := false) hg hl6 (E := bfs N gs i) ⟨i, hi, rfl⟩
        obtain ⟨P, hP, rfl⟩ := one_ok h1
        have hc1 := gcheck_s N (c := true) (l := [tabN N P]) (fun r hr x hx => by simp only [List.mem_singleton] at hr; subst hr; exact hp x hx) (by simp)
        rw [h1] at hc1
        have hmm := kN_mem hB hP
        have kn := number_s hP hN
        by_cases hin : P ∈ (bfs N gs i).map (·.1)
        · obtain ⟨x, x1, x2, x3⟩ := vN_get (n := N) (zp := .agg [.lst true 0 0 [], .lst true 0 0 []]) hB hP hin
          have kF := gfac_ok (by omega) hg hl6 kc hP hc1 ⟨i, hi, rfl⟩ (r := .tup [pli x.2, pint 0]) (.inl ⟨x, x1, x2, rfl⟩)
          have hm2 := hmm.2 hin
          have kw := wvE (equal_refl x.2)
          generalize bfs N gs i = E at *
          refine SC.go {} tok mixed Try.func3 rfl rfl Try.ntmps3 rfl rfl (by kernel_rfl) ?_
          first | simp only [updS] | simp only [updL, Nat.reduceAdd]
          repeat (first | refine S0 ?_ | refine S1 ?_ | refine S2 ?_ | refine S5 ?_ | refine S7 ?_ | refine S8 ?_ | refine S9 ?_ | refine S15 ?_ | refine S16 ?_ | refine S19 ?_ | refine S20 ?_ | refine S28 ?_ | refine S29 ?_ | refine S30 ?_ | refine S34 ?_ | refine S36 ?_ | refine S37 ?_ | refine S38 ?_ | refine S40 ?_ | refine S41 ?_ | refine S45 ?_ | refine S46 ?_ | refine S49 ?_ | refine S66 ?_ | refine S68 ?_ | refine S91 ?_)
          refine Scall (args := [pint N, .lst false 1 gs.length (gL N gs), pli (tabN N P)]) km ?_
          repeat (first | refine S0 ?_ | refine S1 ?_ | refine S2 ?_ | refine S5 ?_ | refine S7 ?_ | refine S8 ?_ | refine S9 ?_ | refine S15 ?_ | refine S16 ?_ | refine S19 ?_ | refine S20 ?_ | refine S28 ?_ | refine S29 ?_ | refine S30 ?_ | refine S34 ?_ | refine S36 ?_ | refine S37 ?_ | refine S38 ?_ | refine S40 ?_ | refine S41 ?_ | refine S45 ?_ | refine S46 ?_ | refine S49 ?_ | refine S66 ?_ | refine S68 ?_ | refine S91 ?_)
          refine Scall (args := []) kG ?_
          repeat (first | refine S0 ?_ | refine S1 ?_ | refine S2 ?_ | refine S5 ?_ | refine S7 ?_ | refine S8 ?_ | refine S9 ?_ | refine S15 ?_ | refine S16 ?_ | refine S19 ?_ | refine S20 ?_ | refine S28 ?_ | refine S29 ?_ | refine S30 ?_ | refine S34 ?_ | refine S36 ?_ | refine S37 ?_ | refine S38 ?_ | refine S40 ?_ | refine S41 ?_ | refine S45 ?_ | refine S46 ?_ | refine S49 ?_ | refine S66 ?_ | refine S68 ?_ | refine S91 ?_)
          refine Scall (args := [pint N, .lst false 1 gs.length (gL N gs), pli (tabN N P)]) kF ?_
          repeat (first | refine S0 ?_ | refine S1 ?_ | refine S2 ?_ | refine S5 ?_ | refine S7 ?_ | refine S8 ?_ | refine S9 ?_ | refine S15 ?_ | refine S16 ?_ | refine S19 ?_ | refine S20 ?_ | refine S28 ?_ | refine S29 ?_ | refine S30 ?_ | refine S34 ?_ | refine S36 ?_ | refine S37 ?_ | refine S38 ?_ | refine S40 ?_ | refine S41 ?_ | refine S45 ?_ | refine S46 ?_ | refine S49 ?_ | refine S66 ?_ | refine S68 ?_ | refine S91 ?_)
          refine Scall (args := [pint N, .lst false 1 gs.length (gL N gs)]) kA ?_
          repeat (first | refine S0 ?_ | refine S1 ?_ | refine S2 ?_ | refine S5 ?_ | refine S7 ?_ | refine S8 ?_ | refine S9 ?_ | refine S15 ?_ | refine S16 ?_ | refine S19 ?_ | refine S20 ?_ | refine S28 ?_ | refine S29 ?_ | refine S30 ?_ | refine S34 ?_ | refine S36 ?_ | refine S37 ?_ | refine S38 ?_ | refine S40 ?_ | refine S41 ?_ | refine S45 ?_ | refine S46 ?_ | refine S49 ?_ | refine S66 ?_ | refine S68 ?_ | refine S91 ?_)
          refine Scall (args := [pli (tabN N P)]) kn ?_
          repeat (first | refine S0 ?_ | refine S1 ?_ | refine S2 ?_ | refine S5 ?_ | refine S7 ?_ | refine S8 ?_ | refine S9 ?_ | refine S15 ?_ | refine S16 ?_ | refine S19 ?_ | refine S20 ?_ | refine S28 ?_ | refine S29 ?_ | refine S30 ?_ | refine S34 ?_ | refine S36 ?_ | refine S37 ?_ | refine S38 ?_ | refine S40 ?_ | refine S41 ?_ | refine S45 ?_ | refine S46 ?_ | refine S49 ?_ | refine S66 ?_ | refine S68 ?_ | refine S91 ?_)
          rw [x3]
          refine AW.staR (r := [pli (tabN N x.1), wv x.2]) EVx (by first | exact Or.inl rfl | exact Or.inr ⟨rfl, HP.tok_even _⟩ | exact Or.inr (Or.inl ⟨rfl, HP.tok_even _⟩) | exact Or.inr (Or.inr ⟨rfl, HP.tok_odd _⟩) | exact Or.inr (Or.inl rfl) | exact Or.inr (Or.inr (Or.inl rfl)) | exact Or.inr (Or.inr (Or.inr (Or.inl ⟨rfl, HP.tok_odd _⟩))) | exact Or.inr (Or.inr (Or.inr (Or.inr ⟨rfl, HP.tok_even _⟩))) | exact Or.inr (Or.inr (Or.inr (Or.inr ⟨rfl, by assumption⟩))) | exact Or.inr ⟨rfl, by assumption⟩ | exact Or.inr (Or.inl ⟨rfl, by assumption⟩) | exact Or.inr (Or.inr ⟨rfl, by assumption⟩) | exact Or.inr (Or.inr (Or.inr (Or.inl ⟨rfl, by assumption⟩))) | exact Or.inr (Or.inr (Or.inl ⟨rfl, HP.tok_odd _⟩)) | exact Or.inr (Or.inr (Or.inl ⟨rfl, by assumption⟩)) | exact Or.inr (Or.inr (Or.inr rfl)) | exact Or.inr (Or.inr rfl) | exact Or.inr rfl) EVx rfl (HP.add_same _ _ _) rfl (by first | omega | (simp only [ints_length, bls_length, List.length_map, List.length_append, List.length_set, List.length_cons, List.length_nil, Int.toNat_natCast]; omega)) el_one rfl ?_
          repeat (first | refine S0 ?_ | refine S1 ?_ | refine S2 ?_ | refine S5 ?_ | refine S7 ?_ | refine S8 ?_ | refine S9 ?_ | refine S15 ?_ | refine S16 ?_ | refine S19 ?_ | refine S20 ?_ | refine S28 ?_ | refine S29 ?_ | refine S30 ?_ | refine S34 ?_ | refine S36 ?_ | refine S37 ?_ | refine S38 ?_ | refine S40 ?_ | refine S41 ?_ | refine S45 ?_ | refine S46 ?_ | refine S49 ?_ | refine S66 ?_ | refine S68 ?_ | refine S91 ?_)
          refine Scall (args := [pli x.2, wv x.2]) kw ?_
          repeat (first | refine S0 ?_ | refine S1 ?_ | refine S2 ?_ | refine S5 ?_ | refine S7 ?_ | refine S8 ?_ | refine S9 ?_ | refine S15 ?_ | refine S16 ?_ | refine S19 ?_ | refine S20 ?_ | refine S28 ?_ | refine S29 ?_ | refine S30 ?_ | refine S34 ?_ | refine S36 ?_ | refine S37 ?_ | refine S38 ?_ | refine S40 ?_ | refine S41 ?_ | refine S45 ?_ | refine S46 ?_ | refine S49 ?_ | refine S66 ?_ | refine S68 ?_ | refine S91 ?_)
          exact ⟨.inr rfl, .cl rfl⟩
        · have kF := gfac_ok (by omega) hg hl6 kc hP hc1 ⟨i, hi, rfl⟩ (r := .tup [.lst true 0 0 [], pint 4]) (.inr ⟨hin, rfl⟩)
          have hm2 : [((number (tabN N P) : Nat) : Int)] ∉ kN N (bfs N gs i) := fun h => hin (hmm.1 h)
          generalize bfs N gs i = E at *
          refine SC.go {} tok mixed Try.func3 rfl rfl Try.ntmps3 rfl rfl (by kernel_rfl) ?_
          first | simp only [updS] | simp only [updL, Nat.reduceAdd]
          repeat (first | refine S0 ?_ | refine S1 ?_ | refine S2 ?_ | refine S5 ?_ | refine S7 ?_ | refine S8 ?_ | refine S9 ?_ | refine S15 ?_ | refine S16 ?_ | refine S19 ?_ | refine S20 ?_ | refine S28 ?_ | refine S29 ?_ | refine S30 ?_ | refine S34 ?_ | refine S36 ?_ | refine S37 ?_ | refine S38 ?_ | refine S40 ?_ | refine S41 ?_ | refine S45 ?_ | refine S46 ?_ | refine S49 ?_ | refine S66 ?_ | refine S68 ?_ | refine S91 ?_)
          refine Scall (args := [pint N, .lst false 1 gs.length (gL N gs), pli (tabN N P)]) km ?_
          repeat (first | refine S0 ?_ | refine S1 ?_ | refine S2 ?_ | refine S5 ?_ | refine S7 ?_ | refine S8 ?_ | refine S9 ?_ | refine S15 ?_ | refine S16 ?_ | refine S19 ?_ | refine S20 ?_ | refine S28 ?_ | refine S29 ?_ | refine S30 ?_ | refine S34 ?_ | refine S36 ?_ | refine S37 ?_ | refine S38 ?_ | refine S40 ?_ | refine S41 ?_ | refine S45 ?_ | refine S46 ?_ | refine S49 ?_ | refine S66 ?_ | refine S68 ?_ | refine S91 ?_)
          refine Scall (args := []) kG ?_
          repeat (first | refine S0 ?_ | refine S1 ?_ | refine S2 ?_ | refine S5 ?_ | refine S7 ?_ | refine S8 ?_ | refine S9 ?_ | refine S15 ?_ | refine S16 ?_ | refine S19 ?_ | refine S20 ?_ | refine S28 ?_ | refine S29 ?_ | refine S30 ?_ | refine S34 ?_ | refine S36 ?_ | refine S37 ?_ | refine S38 ?_ | refine S40 ?_ | refine S41 ?_ | refine S45 ?_ | refine S46 ?_ | refine S49 ?_ | refine S66 ?_ | refine S68 ?_ | refine S91 ?_)
          refine Scall (args := [pint N, .lst false 1 gs.length (gL N gs), pli (tabN N P)]) kF ?_
          repeat (first | refine S0 ?_ | refine S1 ?_ | refine S2 ?_ | refine S5 ?_ | refine S7 ?_ | refine S8 ?_ | refine S9 ?_ | refine S15 ?_ | refine S16 ?_ | refine S19 ?_ | refine S20 ?_ | refine S28 ?_ | refine S29 ?_ | refine S30 ?_ | refine S34 ?_ | refine S36 ?_ | refine S37 ?_ | refine S38 ?_ | refine S40 ?_ | refine S41 ?_ | refine S45 ?_ | refine S46 ?_ | refine S49 ?_ | refine S66 ?_ | refine S68 ?_ | refine S91 ?_)
          refine Scall (args := [pint N, .lst false 1 gs.length (gL N gs)]) kA ?_
          repeat (first | refine S0 ?_ | refine S1 ?_ | refine S2 ?_ | refine S5 ?_ | refine S7 ?_ | refine S8 ?_ | refine S9 ?_ | refine S15 ?_ | refine S16 ?_ | refine S19 ?_ | refine S20 ?_ | refine S28 ?_ | refine S29 ?_ | refine S30 ?_ | refine S34 ?_ | refine S36 ?_ | refine S37 ?_ | refine S38 ?_ | refine S40 ?_ | refine S41 ?_ | refine S45 ?_ | refine S46 ?_ | refine S49 ?_ | refine S66 ?_ | refine S68 ?_ | refine S91 ?_)
          refine Scall (args := [pli (tabN N P)]) kn ?_
          repeat (first | refine S0 ?_ | refine S1 ?_ | refine S2 ?_ | refine S5 ?_ | refine S7 ?_ | refine S8 ?_ | refine S9 ?_ | refine S15 ?_ | refine S16 ?_ | refine S19 ?_ | refine S20 ?_ | refine S28 ?_ | refine S29 ?_ | refine S30 ?_ | refine S34 ?_ | refine S36 ?_ | refine S37 ?_ | refine S38 ?_ | refine S40 ?_ | refine S41 ?_ | refine S45 ?_ | refine S46 ?_ | refine S49 ?_ | refine S66 ?_ | refine S68 ?_ | refine S91 ?_)
          rw [vN_none hm2]
          repeat (first | refine S0 ?_ | refine S1 ?_ | refine S2 ?_ | refine S5 ?_ | refine S7 ?_ | refine S8 ?_ | refine S9 ?_ | refine S15 ?_ | refine S16 ?_ | refine S19 ?_ | refine S20 ?_ | refine S28 ?_ | refine S29 ?_ | refine S30 ?_ | refine S34 ?_ | refine S36 ?_ | refine S37 ?_ | refine S38 ?_ | refine S40 ?_ | refine S41 ?_ | refine S45 ?_ | refine S46 ?_ | refine S49 ?_ | refine S66 ?_ | refine S68 ?_ | refine S91 ?_)
          refine Scall (args := [.lst true 0 0 [], .lst true 0 0 []]) ke ?_
          repeat (first | refine S0 ?_ | refine S1 ?_ | refine S2 ?_ | refine S5 ?_ | refine S7 ?_ | refine S8 ?_ | refine S9 ?_ | refine S15 ?_ | refine S16 ?_ | refine S19 ?_ | refine S20 ?_ | refine S28 ?_ | refine S29 ?_ | refine S30 ?_ | refine S34 ?_ | refine S36 ?_ | refine S37 ?_ | refine S38 ?_ | refine S40 ?_ | refine S41 ?_ | refine S45 ?_ | refine S46 ?_ | refine S49 ?_ | refine S66 ?_ | refine S68 ?_ | refine S91 ?_)
          exact ⟨.inr rfl, .cl rfl⟩
    · have kF := gfac_bad3 hN hg hl6 kc hp h1
      generalize grF N [p] = yy at *
      by_cases h6 : 6 < N
      · refine SC.go {} tok mixed Try.func3 rfl rfl Try.ntmps3 rfl rfl (by kernel_rfl) ?_
        first | simp only [updS] | simp only [updL, Nat.reduceAdd]
        repeat (first | refine S0 ?_ | refine S1 ?_ | refine S2 ?_ | refine S5 ?_ | refine S7 ?_ | refine S8 ?_ | refine S9 ?_ | refine S15 ?_ | refine S16 ?_ | refine S19 ?_ | refine S20 ?_ | refine S28 ?_ | refine S29 ?_ | refine S30 ?_ | refine S34 ?_ | refine S36 ?_ | refine S37 ?_ | refine S38 ?_ | refine S40 ?_ | refine S41 ?_ | refine S45 ?_ | refine S46 ?_ | refine S49 ?_ | refine S66 ?_ | refine S68 ?_ | refine S91 ?_)
        refine Scall (args := [pint N, .lst false 1 gs.length (gL N gs), pli p]) km ?_
        repeat (first | refine S0 ?_ | refine S1 ?_ | refine S2 ?_ | refine S5 ?_ | refine S7 ?_ | refine S8 ?_ | refine S9 ?_ | refine S15 ?_ | refine S16 ?_ | refine S19 ?_ | refine S20 ?_ | refine S28 ?_ | refine S29 ?_ | refine S30 ?_ | refine S34 ?_ | refine S36 ?_ | refine S37 ?_ | refine S38 ?_ | refine S40 ?_ | refine S41 ?_ | refine S45 ?_ | refine S46 ?_ | refine S49 ?_ | refine S66 ?_ | refine S68 ?_ | refine S91 ?_)
        refine Scall (args := []) kG ?_
        repeat (first | refine S0 ?_ | refine S1 ?_ | refine S2 ?_ | refine S5 ?_ | refine S7 ?_ | refine S8 ?_ | refine S9 ?_ | refine S15 ?_ | refine S16 ?_ | refine S19 ?_ | refine S20 ?_ | refine S28 ?_ | refine S29 ?_ | refine S30 ?_ | refine S34 ?_ | refine S36 ?_ | refine S37 ?_ | refine S38 ?_ | refine S40 ?_ | refine S41 ?_ | refine S45 ?_ | refine S46 ?_ | refine S49 ?_ | refine S66 ?_ | refine S68 ?_ | refine S91 ?_)
        refine Scall (args := [pint N, .lst false 1 gs.length (gL N gs), pli p]) kF ?_
        repeat (first | refine S0 ?_ | refine S1 ?_ | refine S2 ?_ | refine S5 ?_ | refine S7 ?_ | refine S8 ?_ | refine S9 ?_ | refine S15 ?_ | refine S16 ?_ | refine S19 ?_ | refine S20 ?_ | refine S28 ?_ | refine S29 ?_ | refine S30 ?_ | refine S34 ?_ | refine S36 ?_ | refine S37 ?_ | refine S38 ?_ | refine S40 ?_ | refine S41 ?_ | refine S45 ?_ | refine S46 ?_ | refine S49 ?_ | refine S66 ?_ | refine S68 ?_ | refine S91 ?_)
        refine Scall (args := [.lst true 0 0 [], .lst true 0 0 []]) ke ?_
        repeat (first | refine S0 ?_ | refine S1 ?_ | refine S2 ?_ | refine S5 ?_ | refine S7 ?_ | refine S8 ?_ | refine S9 ?_ | refine S15 ?_ | refine S16 ?_ | refine S19 ?_ | refine S20 ?_ | refine S28 ?_ | refine S29 ?_ | refine S30 ?_ | refine S34 ?_ | refine S36 ?_ | refine S37 ?_ | refine S38 ?_ | refine S40 ?_ | refine S41 ?_ | refine S45 ?_ | refine S46 ?_ | refine S49 ?_ | refine S66 ?_ | refine S68 ?_ | refine S91 ?_)
        exact ⟨.inr rfl, .cl rfl⟩
      · refine SC.go {} tok mixed Try.func3 rfl rfl Try.ntmps3 rfl rfl (by kernel_rfl) ?_
        first | simp only [updS] | simp only [updL, Nat.reduceAdd]
        repeat (first | refine S0 ?_ | refine S1 ?_ | refine S2 ?_ | refine S5 ?_ | refine S7 ?_ | refine S8 ?_ | refine S9 ?_ | refine S15 ?_ | refine S16 ?_ | refine S19 ?_ | refine S20 ?_ | refine S28 ?_ | refine S29 ?_ | refine S30 ?_ | refine S34 ?_ | refine S36 ?_ | refine S37 ?_ | refine S38 ?_ | refine S40 ?_ | refine S41 ?_ | refine S45 ?_ | refine S46 ?_ | refine S49 ?_ | refine S66 ?_ | refine S68 ?_ | refine S91 ?_)
        refine Scall (args := [pint N, .lst false 1 gs.length (gL N gs), pli p]) km ?_
        repeat (first | refine S0 ?_ | refine S1 ?_ | refine S2 ?_ | refine S5 ?_ | refine S7 ?_ | refine S8 ?_ | refine S9 ?_ | refine S15 ?_ | refine S16 ?_ | refine S19 ?_ | refine S20 ?_ | refine S28 ?_ | refine S29 ?_ | refine S30 ?_ | refine S34 ?_ | refine S36 ?_ | refine S37 ?_ | refine S38 ?_ | refine S40 ?_ | refine S41 ?_ | refine S45 ?_ | refine S46 ?_ | refine S49 ?_ | refine S66 ?_ | refine S68 ?_ | refine S91 ?_)
        refine Scall (args := []) kG ?_
        repeat (first | refine S0 ?_ | refine S1 ?_ | refine S2 ?_ | refine S5 ?_ | refine S7 ?_ | refine S8 ?_ | refine S9 ?_ | refine S15 ?_ | refine S16 ?_ | refine S19 ?_ | refine S20 ?_ | refine S28 ?_ | refine S29 ?_ | refine S30 ?_ | refine S34 ?_ | refine S36 ?_ | refine S37 ?_ | refine S38 ?_ | refine S40 ?_ | refine S41 ?_ | refine S45 ?_ | refine S46 ?_ | refine S49 ?_ | refine S66 ?_ | refine S68 ?_ | refine S91 ?_)
        refine Scall (args := [pint N, .lst false 1 gs.length (gL N gs), pli p]) kF ?_
        repeat (first | refine S0 ?_ | refine S1 ?_ | refine S2 ?_ | refine S5 ?_ | refine S7 ?_ | refine S8 ?_ | refine S9 ?_ | refine S15 ?_ | refine S16 ?_ | refine S19 ?_ | refine S20 ?_ | refine S28 ?_ | refine S29 ?_ | refine S30 ?_ | refine S34 ?_ | refine S36 ?_ | refine S37 ?_ | refine S38 ?_ | refine S40 ?_ | refine S41 ?_ | refine S45 ?_ | refine S46 ?_ | refine S49 ?_ | refine S66 ?_ | refine S68 ?_ | refine S91 ?_)
        refine Scall (args := [.lst true 0 0 [], .lst true 0 0 []]) ke ?_
        repeat (first | refine S0 ?_ | refine S1 ?_ | refine S2 ?_ | refine S5 ?_ | refine S7 ?_ | refine S8 ?_ | refine S9 ?_ | refine S15 ?_ | refine S16 ?_ | refine S19 ?_ | refine S20 ?_ | refine S28 ?_ | refine S29 ?_ | refine S30 ?_ | refine S34 ?_ | refine S36 ?_ | refine S37 ?_ | refine S38 ?_ | refine S40 ?_ | refine S41 ?_ | refine S45 ?_ | refine S46 ?_ | refine S49 ?_ | refine S66 ?_ | refine S68 ?_ | refine S91 ?_)
        exact ⟨.inr rfl, .cl rfl⟩
  · rw [if_neg h0] at km
    have kF := gfac_bad (n := n) (c := false) (p := p) hb hll h0
    generalize grF n l = x at *
    by_cases h6 : 6 < n
    · refine SC.go {} tok mixed Try.func3 rfl rfl Try.ntmps3 rfl rfl (by kernel_rfl) ?_
      first | simp only [updS] | simp only [updL, Nat.reduceAdd]
      repeat (first | refine S0 ?_ | refine S1 ?_ | refine S2 ?_ | refine S5 ?_ | refine S7 ?_ | refine S8 ?_ | refine S9 ?_ | refine S15 ?_ | refine S16 ?_ | refine S19 ?_ | refine S20 ?_ | refine S28 ?_ | refine S29 ?_ | refine S30 ?_ | refine S34 ?_ | refine S36 ?_ | refine S37 ?_ | refine S38 ?_ | refine S40 ?_ | refine S41 ?_ | refine S45 ?_ | refine S46 ?_ | refine S49 ?_ | refine S66 ?_ | refine S68 ?_ | refine S91 ?_)
      refine Scall (args := [pint n, .lst false 1 l.length (l.map pli), pli p]) km ?_
      repeat (first | refine S0 ?_ | refine S1 ?_ | refine S2 ?_ | refine S5 ?_ | refine S7 ?_ | refine S8 ?_ | refine S9 ?_ | refine S15 ?_ | refine S16 ?_ | refine S19 ?_ | refine S20 ?_ | refine S28 ?_ | refine S29 ?_ | refine S30 ?_ | refine S34 ?_ | refine S36 ?_ | refine S37 ?_ | refine S38 ?_ | refine S40 ?_ | refine S41 ?_ | refine S45 ?_ | refine S46 ?_ | refine S49 ?_ | refine S66 ?_ | refine S68 ?_ | refine S91 ?_)
      refine Scall (args := []) kG ?_
      repeat (first | refine S0 ?_ | refine S1 ?_ | refine S2 ?_ | refine S5 ?_ | refine S7 ?_ | refine S8 ?_ | refine S9 ?_ | refine S15 ?_ | refine S16 ?_ | refine S19 ?_ | refine S20 ?_ | refine S28 ?_ | refine S29 ?_ | refine S30 ?_ | refine S34 ?_ | refine S36 ?_ | refine S37 ?_ | refine S38 ?_ | refine S40 ?_ | refine S41 ?_ | refine S45 ?_ | refine S46 ?_ | refine S49 ?_ | refine S66 ?_ | refine S68 ?_ | refine S91 ?_)
      refine Scall (args := [pint n, .lst false 1 l.length (l.map pli), pli p]) kF ?_
      repeat (first | refine S0 ?_ | refine S1 ?_ | refine S2 ?_ | refine S5 ?_ | refine S7 ?_ | refine S8 ?_ | refine S9 ?_ | refine S15 ?_ | refine S16 ?_ | refine S19 ?_ | refine S20 ?_ | refine S28 ?_ | refine S29 ?_ | refine S30 ?_ | refine S34 ?_ | refine S36 ?_ | refine S37 ?_ | refine S38 ?_ | refine S40 ?_ | refine S41 ?_ | refine S45 ?_ | refine S46 ?_ | refine S49 ?_ | refine S66 ?_ | refine S68 ?_ | refine S91 ?_)
      refine Scall (args := [.lst true 0 0 [], .lst true 0 0 []]) ke ?_
      repeat (first | refine S0 ?_ | refine S1 ?_ | refine S2 ?_ | refine S5 ?_ | refine S7 ?_ | refine S8 ?_ | refine S9 ?_ | refine S15 ?_ | refine S16 ?_ | refine S19 ?_ | refine S20 ?_ | refine S28 ?_ | refine S29 ?_ | refine S30 ?_ | refine S34 ?_ | refine S36 ?_ | refine S37 ?_ | refine S38 ?_ | refine S40 ?_ | refine S41 ?_ | refine S45 ?_ | refine S46 ?_ | refine S49 ?_ | refine S66 ?_ | refine S68 ?_ | refine S91 ?_)
      exact ⟨.inr rfl, .cl rfl⟩
    · refine SC.go {} tok mixed Try.func3 rfl rfl Try.ntmps3 rfl rfl (by kernel_rfl) ?_
      first | simp only [updS] | simp only [updL, Nat.reduceAdd]
      repeat (first | refine S0 ?_ | refine S1 ?_ | refine S2 ?_ | refine S5 ?_ | refine S7 ?_ | refine S8 ?_ | refine S9 ?_ | refine S15 ?_ | refine S16 ?_ | refine S19 ?_ | refine S20 ?_ | refine S28 ?_ | refine S29 ?_ | refine S30 ?_ | refine S34 ?_ | refine S36 ?_ | refine S37 ?_ | refine S38 ?_ | refine S40 ?_ | refine S41 ?_ | refine S45 ?_ | refine S46 ?_ | refine S49 ?_ | refine S66 ?_ | refine S68 ?_ | refine S91 ?_)
      refine Scall (args := [pint n, .lst false 1 l.length (l.map pli), pli p]) km ?_
      repeat (first | refine S0 ?_ | refine S1 ?_ | refine S2 ?_ | refine S5 ?_ | refine S7 ?_ | refine S8 ?_ | refine S9 ?_ | refine S15 ?_ | refine S16 ?_ | refine S19 ?_ | refine S20 ?_ | refine S28 ?_ | refine S29 ?_ | refine S30 ?_ | refine S34 ?_ | refine S36 ?_ | refine S37 ?_ | refine S38 ?_ | refine S40 ?_ | refine S41 ?_ | refine S45 ?_ | refine S46 ?_ | refine S49 ?_ | refine S66 ?_ | refine S68 ?_ | refine S91 ?_)
      refine Scall (args := []) kG ?_
      repeat (first | refine S0 ?_ | refine S1 ?_ | refine S2 ?_ | refine S5 ?_ | refine S7 ?_ | refine S8 ?_ | refine S9 ?_ | refine S15 ?_ | refine S16 ?_ | refine S19 ?_ | refine S20 ?_ | refine S28 ?_ | refine S29 ?_ | refine S30 ?_ | refine S34 ?_ | refine S36 ?_ | refine S37 ?_ | refine S38 ?_ | refine S40 ?_ | refine S41 ?_ | refine S45 ?_ | refine S46 ?_ | refine S49 ?_ | refine S66 ?_ | refine S68 ?_ | refine S91 ?_)
      refine Scall (args := [pint n, .lst false 1 l.length (l.map pli), pli p]) kF ?_
      repeat (first | refine S0 ?_ | refine S1 ?_ | refine S2 ?_ | refine S5 ?_ | refine S7 ?_ | refine S8 ?_ | refine S9 ?_ | refine S15 ?_ | refine S16 ?_ | refine S19 ?_ | refine S20 ?_ | refine S28 ?_ | refine S29 ?_ | refine S30 ?_ | refine S34 ?_ | refine S36 ?_ | refine S37 ?_ | refine S38 ?_ | refine S40 ?_ | refine S41 ?_ | refine S45 ?_ | refine S46 ?_ | refine S49 ?_ | refine S66 ?_ | refine S68 ?_ | refine S91 ?_)
      refine Scall (args := [.lst true 0 0 [], .lst true 0 0 []]) ke ?_
      repeat (first | refine S0 ?_ | refine S1 ?_ | refine S2 ?_ | refine S5 ?_ | refine S7 ?_ | refine S8 ?_ | refine S9 ?_ | refine S15 ?_ | refine S16 ?_ | refine S19 ?_ | refine S20 ?_ | refine S28 ?_ | refine S29 ?_ | refine S30 ?_ | refine S34 ?_ | refine S36 ?_ | refine S37 ?_ | refine S38 ?_ | refine S40 ?_ | refine S41 ?_ | refine S45 ?_ | refine S46 ?_ | refine S49 ?_ | refine S66 ?_ | refine S68 ?_ | refine S91 ?_)
      exact ⟨.inr rfl, .cl rfl⟩
end Go.Proofs.Ythacglggkgmbhaa
