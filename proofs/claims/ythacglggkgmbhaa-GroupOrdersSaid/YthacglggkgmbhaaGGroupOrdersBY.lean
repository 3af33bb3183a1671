/- The laws GroupOrders and GroupFactors hold for all numbers and lists. No condition of its own. -/
import Derived.Test.YthacglggkgmbhaaGGroupOrdersBX
set_option linter.unusedVariables false
set_option linter.unusedSimpArgs false
namespace Go.Proofs.Ythacglggkgmbhaa
open Go.RowKit

theorem one_ok {N : Nat} {p : List Int} (h : grF N [p] = 0) : ∃ P, Pe N P ∧ p = tabN N P := by
  obtain ⟨N', gs, e, _, _, h3, h4⟩ := grF_ok h
  have e : N = N' := by omega
  subst e
  match gs, h3, h4 with
  | [g], h3, h4 => exact ⟨g, h3 g (by simp), by simpa using h4⟩
  | [], _, h4 => simp at h4
  | _ :: _ :: _, _, h4 => simp at h4
set_option maxHeartbeats 16000000 in
set_option maxRecDepth 100000 in
theorem gorders_s (n : Int) {l : List (List Int)} {p : List Int} (hb : ∀ r ∈ l, ∀ x ∈ r, in64 x) (hp : ∀ x ∈ p, in64 x) : SC Try.prog 4 [pint n, .lst false 1 l.length (l.map pli), pli p] (.sc (.bool true)) := by
  refine SC.len (callable Try.func4 rfl rfl) (fun hlen => ?_)
  have hll : l.length ≤ 9223372036854775807 := hlen (.lst false 1 l.length (l.map pli)) (by simp)
  clear hlen
  have kG := grouped_s
  have kf := gfault_s n (c := false) hb hll
  have km := member_s n (c := false) hb hp hll
  have kc := gcheck_s n (c := false) hb hll
  by_cases h0 : grF n l = 0
  · rw [if_pos h0] at km
    rw [h0] at kf kc
    obtain ⟨N, gs, rfl, hN, hl6, hg, rfl⟩ := grF_ok h0
    rw [List.length_map, gL_map] at *
    by_cases h6 : 6 < N
    · generalize grF N [p] = yy at *
      refine SC.go {} tok mixed Try.func4 rfl rfl Try.ntmps4 rfl rfl (by kernel_rfl) ?_
      first | simp only [updS] | simp only [updL, Nat.reduceAdd]
      repeat (first | refine S0 ?_ | refine S1 ?_ | refine S2 ?_ | refine S5 ?_ | refine S7 ?_ | refine S8 ?_ | refine S9 ?_ | refine S15 ?_ | refine S16 ?_ | refine S19 ?_ | refine S20 ?_ | refine S28 ?_ | refine S29 ?_ | refine S30 ?_ | refine S34 ?_ | refine S36 ?_ | refine S37 ?_ | refine S38 ?_ | refine S40 ?_ | refine S41 ?_ | refine S77 ?_ | refine S91 ?_ | refine S94 ?_)
      refine Scall (args := [pint N, .lst false 1 gs.length (gL N gs)]) kf ?_
      repeat (first | refine S0 ?_ | refine S1 ?_ | refine S2 ?_ | refine S5 ?_ | refine S7 ?_ | refine S8 ?_ | refine S9 ?_ | refine S15 ?_ | refine S16 ?_ | refine S19 ?_ | refine S20 ?_ | refine S28 ?_ | refine S29 ?_ | refine S30 ?_ | refine S34 ?_ | refine S36 ?_ | refine S37 ?_ | refine S38 ?_ | refine S40 ?_ | refine S41 ?_ | refine S77 ?_ | refine S91 ?_ | refine S94 ?_)
      refine Scall (args := [pint N, .lst false 1 gs.length (gL N gs), pli p]) km ?_
      repeat (first | refine S0 ?_ | refine S1 ?_ | refine S2 ?_ | refine S5 ?_ | refine S7 ?_ | refine S8 ?_ | refine S9 ?_ | refine S15 ?_ | refine S16 ?_ | refine S19 ?_ | refine S20 ?_ | refine S28 ?_ | refine S29 ?_ | refine S30 ?_ | refine S34 ?_ | refine S36 ?_ | refine S37 ?_ | refine S38 ?_ | refine S40 ?_ | refine S41 ?_ | refine S77 ?_ | refine S91 ?_ | refine S94 ?_)
      refine Scall (args := []) kG ?_
      repeat (first | refine S0 ?_ | refine S1 ?_ | refine S2 ?_ | refine S5 ?_ | refine S7 ?_ | refine S8 ?_ | refine S9 ?_ | refine S15 ?_ | refine S16 ?_ | refine S19 ?_ | refine S20 ?_ | refine S28 ?_ | refine S29 ?_ | refine S30 ?_ | refine S34 ?_ | refine S36 ?_ | refine S37 ?_ | refine S38 ?_ | refine S40 ?_ | refine S41 ?_ | refine S77 ?_ | refine S91 ?_ | refine S94 ?_)
      refine Scall (args := [pint N, .lst false 1 gs.length (gL N gs)]) kc ?_
      repeat (first | refine S0 ?_ | refine S1 ?_ | refine S2 ?_ | refine S5 ?_ | refine S7 ?_ | refine S8 ?_ | refine S9 ?_ | refine S15 ?_ | refine S16 ?_ | refine S19 ?_ | refine S20 ?_ | refine S28 ?_ | refine S29 ?_ | refine S30 ?_ | refine S34 ?_ | refine S36 ?_ | refine S37 ?_ | refine S38 ?_ | refine S40 ?_ | refine S41 ?_ | refine S77 ?_ | refine S91 ?_ | refine S94 ?_)
      exact ⟨.inr rfl, .cl rfl⟩
    · obtain ⟨i, hi⟩ := bfs_end hN hg
      have hB := Be.bfs hg i
      have ko := gorder_ok hN hg hl6 kc hB.nd (bfs_all hN hg hi)
      have kA := group_s hN (c := false) hg hl6 (E := bfs N gs i) ⟨i, hi, rfl⟩
      have hlen := be_fac hB
      have hfac := fac6 (n := N) (by omega)
      rw [List.length_map] at ko
      have hal := bfs_all hN hg hi
      generalize bfs N gs i = E at *
      clear hi
      have hkl := kN_len N E
      by_cases h1 : grF N [p] = 0
      · rw [h1] at km
        obtain ⟨P, hP, rfl⟩ := one_ok h1
        have hc1 := gcheck_s N (c := true) (l := [tabN N P]) (fun r hr x hx => by simp only [List.mem_singleton] at hr; subst hr; exact hp x hx) (by simp)
        rw [h1] at hc1
        have hmm := kN_mem hB hP
        have kt := gcont_ok hN hg hl6 kc hP hc1 (b := decide ([((number (tabN N P) : Nat) : Int)] ∈ kN N E)) (by rw [decide_eq_true_eq, hmm, hal])
        have kn := number_s hP hN
        refine SC.go {} tok mixed Try.func4 rfl rfl Try.ntmps4 rfl rfl (by kernel_rfl) ?_
        first | simp only [updS] | simp only [updL, Nat.reduceAdd]
        repeat (first | refine S0 ?_ | refine S1 ?_ | refine S2 ?_ | refine S5 ?_ | refine S7 ?_ | refine S8 ?_ | refine S9 ?_ | refine S15 ?_ | refine S16 ?_ | refine S19 ?_ | refine S20 ?_ | refine S28 ?_ | refine S29 ?_ | refine S30 ?_ | refine S34 ?_ | refine S36 ?_ | refine S37 ?_ | refine S38 ?_ | refine S40 ?_ | refine S41 ?_ | refine S77 ?_ | refine S91 ?_ | refine S94 ?_)
        refine Scall (args := [pint N, .lst false 1 gs.length (gL N gs)]) kf ?_
        repeat (first | refine S0 ?_ | refine S1 ?_ | refine S2 ?_ | refine S5 ?_ | refine S7 ?_ | refine S8 ?_ | refine S9 ?_ | refine S15 ?_ | refine S16 ?_ | refine S19 ?_ | refine S20 ?_ | refine S28 ?_ | refine S29 ?_ | refine S30 ?_ | refine S34 ?_ | refine S36 ?_ | refine S37 ?_ | refine S38 ?_ | refine S40 ?_ | refine S41 ?_ | refine S77 ?_ | refine S91 ?_ | refine S94 ?_)
        refine Scall (args := [pint N, .lst false 1 gs.length (gL N gs), pli (tabN N P)]) km ?_
        repeat (first | refine S0 ?_ | refine S1 ?_ | refine S2 ?_ | refine S5 ?_ | refine S7 ?_ | refine S8 ?_ | refine S9 ?_ | refine S15 ?_ | refine S16 ?_ | refine S19 ?_ | refine S20 ?_ | refine S28 ?_ | refine S29 ?_ | refine S30 ?_ | refine S34 ?_ | refine S36 ?_ | refine S37 ?_ | refine S38 ?_ | refine S40 ?_ | refine S41 ?_ | refine S77 ?_ | refine S91 ?_ | refine S94 ?_)
        refine Scall (args := []) kG ?_
        repeat (first | refine S0 ?_ | refine S1 ?_ | refine S2 ?_ | refine S5 ?_ | refine S7 ?_ | refine S8 ?_ | refine S9 ?_ | refine S15 ?_ | refine S16 ?_ | refine S19 ?_ | refine S20 ?_ | refine S28 ?_ | refine S29 ?_ | refine S30 ?_ | refine S34 ?_ | refine S36 ?_ | refine S37 ?_ | refine S38 ?_ | refine S40 ?_ | refine S41 ?_ | refine S77 ?_ | refine S91 ?_ | refine S94 ?_)
        refine Scall (args := [pint N, .lst false 1 gs.length (gL N gs)]) kc ?_
        repeat (first | refine S0 ?_ | refine S1 ?_ | refine S2 ?_ | refine S5 ?_ | refine S7 ?_ | refine S8 ?_ | refine S9 ?_ | refine S15 ?_ | refine S16 ?_ | refine S19 ?_ | refine S20 ?_ | refine S28 ?_ | refine S29 ?_ | refine S30 ?_ | refine S34 ?_ | refine S36 ?_ | refine S37 ?_ | refine S38 ?_ | refine S40 ?_ | refine S41 ?_ | refine S77 ?_ | refine S91 ?_ | refine S94 ?_)
        refine Scall (args := [pint N, .lst false 1 gs.length (gL N gs)]) ko ?_
        repeat (first | refine S0 ?_ | refine S1 ?_ | refine S2 ?_ | refine S5 ?_ | refine S7 ?_ | refine S8 ?_ | refine S9 ?_ | refine S15 ?_ | refine S16 ?_ | refine S19 ?_ | refine S20 ?_ | refine S28 ?_ | refine S29 ?_ | refine S30 ?_ | refine S34 ?_ | refine S36 ?_ | refine S37 ?_ | refine S38 ?_ | refine S40 ?_ | refine S41 ?_ | refine S77 ?_ | refine S91 ?_ | refine S94 ?_)
        refine Scall (args := [pint N, .lst false 1 gs.length (gL N gs), pli (tabN N P)]) kt ?_
        repeat (first | refine S0 ?_ | refine S1 ?_ | refine S2 ?_ | refine S5 ?_ | refine S7 ?_ | refine S8 ?_ | refine S9 ?_ | refine S15 ?_ | refine S16 ?_ | refine S19 ?_ | refine S20 ?_ | refine S28 ?_ | refine S29 ?_ | refine S30 ?_ | refine S34 ?_ | refine S36 ?_ | refine S37 ?_ | refine S38 ?_ | refine S40 ?_ | refine S41 ?_ | refine S77 ?_ | refine S91 ?_ | refine S94 ?_)
        refine Scall (args := [pint N, .lst false 1 gs.length (gL N gs)]) kA ?_
        repeat (first | refine S0 ?_ | refine S1 ?_ | refine S2 ?_ | refine S5 ?_ | refine S7 ?_ | refine S8 ?_ | refine S9 ?_ | refine S15 ?_ | refine S16 ?_ | refine S19 ?_ | refine S20 ?_ | refine S28 ?_ | refine S29 ?_ | refine S30 ?_ | refine S34 ?_ | refine S36 ?_ | refine S37 ?_ | refine S38 ?_ | refine S40 ?_ | refine S41 ?_ | refine S77 ?_ | refine S91 ?_ | refine S94 ?_)
        refine Scall (args := [pli (tabN N P)]) kn ?_
        rw [← hkl] at ko
        generalize hd : decide ([((number (tabN N P) : Nat) : Int)] ∈ kN N E) = dd at *
        repeat (first | refine S0 ?_ | refine S1 ?_ | refine S2 ?_ | refine S5 ?_ | refine S7 ?_ | refine S8 ?_ | refine S9 ?_ | refine S15 ?_ | refine S16 ?_ | refine S19 ?_ | refine S20 ?_ | refine S28 ?_ | refine S29 ?_ | refine S30 ?_ | refine S34 ?_ | refine S36 ?_ | refine S37 ?_ | refine S38 ?_ | refine S40 ?_ | refine S41 ?_ | refine S77 ?_ | refine S91 ?_ | refine S94 ?_)
        rw [hd, beq_self_eq_true]
        exact ⟨.inr rfl, .cl rfl⟩
      · have kt := gcont_bad2 (n := N) (c := false) hb hp (by rw [List.length_map]; exact hll) h0 h1
        rw [List.length_map, gL_map] at kt
        generalize grF N [p] = yy at *
        refine SC.go {} tok mixed Try.func4 rfl rfl Try.ntmps4 rfl rfl (by kernel_rfl) ?_
        first | simp only [updS] | simp only [updL, Nat.reduceAdd]
        repeat (first | refine S0 ?_ | refine S1 ?_ | refine S2 ?_ | refine S5 ?_ | refine S7 ?_ | refine S8 ?_ | refine S9 ?_ | refine S15 ?_ | refine S16 ?_ | refine S19 ?_ | refine S20 ?_ | refine S28 ?_ | refine S29 ?_ | refine S30 ?_ | refine S34 ?_ | refine S36 ?_ | refine S37 ?_ | refine S38 ?_ | refine S40 ?_ | refine S41 ?_ | refine S77 ?_ | refine S91 ?_ | refine S94 ?_)
        refine Scall (args := [pint N, .lst false 1 gs.length (gL N gs)]) kf ?_
        repeat (first | refine S0 ?_ | refine S1 ?_ | refine S2 ?_ | refine S5 ?_ | refine S7 ?_ | refine S8 ?_ | refine S9 ?_ | refine S15 ?_ | refine S16 ?_ | refine S19 ?_ | refine S20 ?_ | refine S28 ?_ | refine S29 ?_ | refine S30 ?_ | refine S34 ?_ | refine S36 ?_ | refine S37 ?_ | refine S38 ?_ | refine S40 ?_ | refine S41 ?_ | refine S77 ?_ | refine S91 ?_ | refine S94 ?_)
        refine Scall (args := [pint N, .lst false 1 gs.length (gL N gs), pli p]) km ?_
        repeat (first | refine S0 ?_ | refine S1 ?_ | refine S2 ?_ | refine S5 ?_ | refine S7 ?_ | refine S8 ?_ | refine S9 ?_ | refine S15 ?_ | refine S16 ?_ | refine S19 ?_ | refine S20 ?_ | refine S28 ?_ | refine S29 ?_ | refine S30 ?_ | refine S34 ?_ | refine S36 ?_ | refine S37 ?_ | refine S38 ?_ | refine S40 ?_ | refine S41 ?_ | refine S77 ?_ | refine S91 ?_ | refine S94 ?_)
        refine Scall (args := []) kG ?_
        repeat (first | refine S0 ?_ | refine S1 ?_ | refine S2 ?_ | refine S5 ?_ | refine S7 ?_ | refine S8 ?_ | refine S9 ?_ | refine S15 ?_ | refine S16 ?_ | refine S19 ?_ | refine S20 ?_ | refine S28 ?_ | refine S29 ?_ | refine S30 ?_ | refine S34 ?_ | refine S36 ?_ | refine S37 ?_ | refine S38 ?_ | refine S40 ?_ | refine S41 ?_ | refine S77 ?_ | refine S91 ?_ | refine S94 ?_)
        refine Scall (args := [pint N, .lst false 1 gs.length (gL N gs)]) kc ?_
        repeat (first | refine S0 ?_ | refine S1 ?_ | refine S2 ?_ | refine S5 ?_ | refine S7 ?_ | refine S8 ?_ | refine S9 ?_ | refine S15 ?_ | refine S16 ?_ | refine S19 ?_ | refine S20 ?_ | refine S28 ?_ | refine S29 ?_ | refine S30 ?_ | refine S34 ?_ | refine S36 ?_ | refine S37 ?_ | refine S38 ?_ | refine S40 ?_ | refine S41 ?_ | refine S77 ?_ | refine S91 ?_ | refine S94 ?_)
        refine Scall (args := [pint N, .lst false 1 gs.length (gL N gs)]) ko ?_
        repeat (first | refine S0 ?_ | refine S1 ?_ | refine S2 ?_ | refine S5 ?_ | refine S7 ?_ | refine S8 ?_ | refine S9 ?_ | refine S15 ?_ | refine S16 ?_ | refine S19 ?_ | refine S20 ?_ | refine S28 ?_ | refine S29 ?_ | refine S30 ?_ | refine S34 ?_ | refine S36 ?_ | refine S37 ?_ | refine S38 ?_ | refine S40 ?_ | refine S41 ?_ | refine S77 ?_ | refine S91 ?_ | refine S94 ?_)
        refine Scall (args := [pint N, .lst false 1 gs.length (gL N gs), pli p]) kt ?_
        repeat (first | refine S0 ?_ | refine S1 ?_ | refine S2 ?_ | refine S5 ?_ | refine S7 ?_ | refine S8 ?_ | refine S9 ?_ | refine S15 ?_ | refine S16 ?_ | refine S19 ?_ | refine S20 ?_ | refine S28 ?_ | refine S29 ?_ | refine S30 ?_ | refine S34 ?_ | refine S36 ?_ | refine S37 ?_ | refine S38 ?_ | refine S40 ?_ | refine S41 ?_ | refine S77 ?_ | refine S91 ?_ | refine S94 ?_)
        refine Scall (args := [pint N, .lst false 1 gs.length (gL N gs)]) kA ?_
        repeat (first | refine S0 ?_ | refine S1 ?_ | refine S2 ?_ | refine S5 ?_ | refine S7 ?_ | refine S8 ?_ | refine S9 ?_ | refine S15 ?_ | refine S16 ?_ | refine S19 ?_ | refine S20 ?_ | refine S28 ?_ | refine S29 ?_ | refine S30 ?_ | refine S34 ?_ | refine S36 ?_ | refine S37 ?_ | refine S38 ?_ | refine S40 ?_ | refine S41 ?_ | refine S77 ?_ | refine S91 ?_ | refine S94 ?_)
        exact ⟨.inr rfl, .cl rfl⟩
  · rw [if_neg h0] at km
    have ko := gorder_bad (n := n) (c := false) hb hll h0
    have kt := gcont_bad (n := n) (c := false) (p := p) hb hll h0
    generalize grF n l = x at *
    refine SC.go {} tok mixed Try.func4 rfl rfl Try.ntmps4 rfl rfl (by kernel_rfl) ?_
    first | simp only [updS] | simp only [updL, Nat.reduceAdd]
    repeat (first | refine S0 ?_ | refine S1 ?_ | refine S2 ?_ | refine S5 ?_ | refine S7 ?_ | refine S8 ?_ | refine S9 ?_ | refine S15 ?_ | refine S16 ?_ | refine S19 ?_ | refine S20 ?_ | refine S28 ?_ | refine S29 ?_ | refine S30 ?_ | refine S34 ?_ | refine S36 ?_ | refine S37 ?_ | refine S38 ?_ | refine S40 ?_ | refine S41 ?_ | refine S77 ?_ | refine S91 ?_ | refine S94 ?_)
    refine Scall (args := [pint n, .lst false 1 l.length (l.map pli)]) kf ?_
    repeat (first | refine S0 ?_ | refine S1 ?_ | refine S2 ?_ | refine S5 ?_ | refine S7 ?_ | refine S8 ?_ | refine S9 ?_ | refine S15 ?_ | refine S16 ?_ | refine S19 ?_ | refine S20 ?_ | refine S28 ?_ | refine S29 ?_ | refine S30 ?_ | refine S34 ?_ | refine S36 ?_ | refine S37 ?_ | refine S38 ?_ | refine S40 ?_ | refine S41 ?_ | refine S77 ?_ | refine S91 ?_ | refine S94 ?_)
    refine Scall (args := [pint n, .lst false 1 l.length (l.map pli), pli p]) km ?_
    repeat (first | refine S0 ?_ | refine S1 ?_ | refine S2 ?_ | refine S5 ?_ | refine S7 ?_ | refine S8 ?_ | refine S9 ?_ | refine S15 ?_ | refine S16 ?_ | refine S19 ?_ | refine S20 ?_ | refine S28 ?_ | refine S29 ?_ | refine S30 ?_ | refine S34 ?_ | refine S36 ?_ | refine S37 ?_ | refine S38 ?_ | refine S40 ?_ | refine S41 ?_ | refine S77 ?_ | refine S91 ?_ | refine S94 ?_)
    refine Scall (args := []) kG ?_
    repeat (first | refine S0 ?_ | refine S1 ?_ | refine S2 ?_ | refine S5 ?_ | refine S7 ?_ | refine S8 ?_ | refine S9 ?_ | refine S15 ?_ | refine S16 ?_ | refine S19 ?_ | refine S20 ?_ | refine S28 ?_ | refine S29 ?_ | refine S30 ?_ | refine S34 ?_ | refine S36 ?_ | refine S37 ?_ | refine S38 ?_ | refine S40 ?_ | refine S41 ?_ | refine S77 ?_ | refine S91 ?_ | refine S94 ?_)
    refine Scall (args := [pint n, .lst false 1 l.length (l.map pli)]) kc ?_
    by_cases h6 : 6 < n
    · repeat (first | refine S0 ?_ | refine S1 ?_ | refine S2 ?_ | refine S5 ?_ | refine S7 ?_ | refine S8 ?_ | refine S9 ?_ | refine S15 ?_ | refine S16 ?_ | refine S19 ?_ | refine S20 ?_ | refine S28 ?_ | refine S29 ?_ | refine S30 ?_ | refine S34 ?_ | refine S36 ?_ | refine S37 ?_ | refine S38 ?_ | refine S40 ?_ | refine S41 ?_ | refine S77 ?_ | refine S91 ?_ | refine S94 ?_)
      refine Scall (args := [pint n, .lst false 1 l.length (l.map pli)]) ko ?_
      repeat (first | refine S0 ?_ | refine S1 ?_ | refine S2 ?_ | refine S5 ?_ | refine S7 ?_ | refine S8 ?_ | refine S9 ?_ | refine S15 ?_ | refine S16 ?_ | refine S19 ?_ | refine S20 ?_ | refine S28 ?_ | refine S29 ?_ | refine S30 ?_ | refine S34 ?_ | refine S36 ?_ | refine S37 ?_ | refine S38 ?_ | refine S40 ?_ | refine S41 ?_ | refine S77 ?_ | refine S91 ?_ | refine S94 ?_)
      refine Scall (args := [pint n, .lst false 1 l.length (l.map pli), pli p]) kt ?_
      repeat (first | refine S0 ?_ | refine S1 ?_ | refine S2 ?_ | refine S5 ?_ | refine S7 ?_ | refine S8 ?_ | refine S9 ?_ | refine S15 ?_ | refine S16 ?_ | refine S19 ?_ | refine S20 ?_ | refine S28 ?_ | refine S29 ?_ | refine S30 ?_ | refine S34 ?_ | refine S36 ?_ | refine S37 ?_ | refine S38 ?_ | refine S40 ?_ | refine S41 ?_ | refine S77 ?_ | refine S91 ?_ | refine S94 ?_)
      exact ⟨.inr rfl, .cl rfl⟩
    · repeat (first | refine S0 ?_ | refine S1 ?_ | refine S2 ?_ | refine S5 ?_ | refine S7 ?_ | refine S8 ?_ | refine S9 ?_ | refine S15 ?_ | refine S16 ?_ | refine S19 ?_ | refine S20 ?_ | refine S28 ?_ | refine S29 ?_ | refine S30 ?_ | refine S34 ?_ | refine S36 ?_ | refine S37 ?_ | refine S38 ?_ | refine S40 ?_ | refine S41 ?_ | refine S77 ?_ | refine S91 ?_ | refine S94 ?_)
      refine Scall (args := [pint n, .lst false 1 l.length (l.map pli)]) ko ?_
      repeat (first | refine S0 ?_ | refine S1 ?_ | refine S2 ?_ | refine S5 ?_ | refine S7 ?_ | refine S8 ?_ | refine S9 ?_ | refine S15 ?_ | refine S16 ?_ | refine S19 ?_ | refine S20 ?_ | refine S28 ?_ | refine S29 ?_ | refine S30 ?_ | refine S34 ?_ | refine S36 ?_ | refine S37 ?_ | refine S38 ?_ | refine S40 ?_ | refine S41 ?_ | refine S77 ?_ | refine S91 ?_ | refine S94 ?_)
      refine Scall (args := [pint n, .lst false 1 l.length (l.map pli), pli p]) kt ?_
      repeat (first | refine S0 ?_ | refine S1 ?_ | refine S2 ?_ | refine S5 ?_ | refine S7 ?_ | refine S8 ?_ | refine S9 ?_ | refine S15 ?_ | refine S16 ?_ | refine S19 ?_ | refine S20 ?_ | refine S28 ?_ | refine S29 ?_ | refine S30 ?_ | refine S34 ?_ | refine S36 ?_ | refine S37 ?_ | refine S38 ?_ | refine S40 ?_ | refine S41 ?_ | refine S77 ?_ | refine S91 ?_ | refine S94 ?_)
      exact ⟨.inr rfl, .cl rfl⟩
end Go.Proofs.Ythacglggkgmbhaa
