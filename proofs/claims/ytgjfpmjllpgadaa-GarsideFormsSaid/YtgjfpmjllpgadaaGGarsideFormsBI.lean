/- The reference's FactorsFault; the words of powers of the half twist and factors. No condition of its own. -/
import Derived.Test.YtgjfpmjllpgadaaGGarsideFormsBH
set_option linter.unusedVariables false
set_option linter.unusedSimpArgs false
namespace Go.Proofs.Ytgjfpmjllpgadaa
open Go.RowKit

set_option maxHeartbeats 32000000 in
set_option maxRecDepth 100000 in
theorem ffactor_s (n : Int) {l : List (List Int)} (hb : ∀ r ∈ l, ∀ x ∈ r, in64 x) : SC Try.prog 54 [pint n, plls l] (pint (gF n l)) := by
  refine SC.len (callable Try.func54 rfl rfl) (fun hlen => ?_)
  have hll : l.length ≤ 9223372036854775807 := hlen (plls l) (by simp)
  clear hlen
  refine SC.go {} tok mixed Try.func54 rfl rfl Try.ntmps54 rfl rfl (by kernel_rfl) ?_
  first | simp only [updS] | simp only [updL, Nat.reduceAdd]
  unfold gF
  by_cases hn2 : n < 2
  · rw [if_pos (.inl hn2)]
    repeat (first | refine S0 ?_ | refine S1 ?_ | refine S2 ?_ | refine S4 ?_ | refine S5 ?_ | refine S6 ?_ | refine S7 ?_ | refine S8 ?_ | refine S9 ?_ | refine S10 ?_ | refine S11 ?_ | refine S12 ?_ | refine S13 ?_ | refine S15 ?_ | refine S16 ?_ | refine S19 ?_ | refine S20 ?_ | refine S21 ?_ | refine S22 ?_ | refine S23 ?_ | refine S25 ?_ | refine S26 ?_ | refine S29 ?_ | refine S30 ?_ | refine S33 ?_ | refine S36 ?_ | refine S37 ?_ | refine S38 ?_ | refine S39 ?_ | refine S40 ?_ | refine S41 ?_)
    exact ⟨.inr rfl, .cl rfl⟩
  by_cases hn6 : 6 < n
  · rw [if_pos (.inr hn6)]
    repeat (first | refine S0 ?_ | refine S1 ?_ | refine S2 ?_ | refine S4 ?_ | refine S5 ?_ | refine S6 ?_ | refine S7 ?_ | refine S8 ?_ | refine S9 ?_ | refine S10 ?_ | refine S11 ?_ | refine S12 ?_ | refine S13 ?_ | refine S15 ?_ | refine S16 ?_ | refine S19 ?_ | refine S20 ?_ | refine S21 ?_ | refine S22 ?_ | refine S23 ?_ | refine S25 ?_ | refine S26 ?_ | refine S29 ?_ | refine S30 ?_ | refine S33 ?_ | refine S36 ?_ | refine S37 ?_ | refine S38 ?_ | refine S39 ?_ | refine S40 ?_ | refine S41 ?_)
    exact ⟨.inr rfl, .cl rfl⟩
  rw [if_neg (by omega)]
  by_cases hl : 30 < l.length
  · rw [if_pos hl]
    repeat (first | refine S0 ?_ | refine S1 ?_ | refine S2 ?_ | refine S4 ?_ | refine S5 ?_ | refine S6 ?_ | refine S7 ?_ | refine S8 ?_ | refine S9 ?_ | refine S10 ?_ | refine S11 ?_ | refine S12 ?_ | refine S13 ?_ | refine S15 ?_ | refine S16 ?_ | refine S19 ?_ | refine S20 ?_ | refine S21 ?_ | refine S22 ?_ | refine S23 ?_ | refine S25 ?_ | refine S26 ?_ | refine S29 ?_ | refine S30 ?_ | refine S33 ?_ | refine S36 ?_ | refine S37 ?_ | refine S38 ?_ | refine S39 ?_ | refine S40 ?_ | refine S41 ?_)
    exact ⟨.inr rfl, .cl rfl⟩
  rw [if_neg hl]
  obtain ⟨N, rfl⟩ : ∃ N : Nat, n = (N : Int) := ⟨n.toNat, by omega⟩
  have hN : 2 ≤ N ∧ N ≤ 6 := by omega
  rw [Int.toNat_natCast]
  have ki := row_s N (by omega)
  have kh := full_s hN
  repeat (first | refine S0 ?_ | refine S1 ?_ | refine S2 ?_ | refine S4 ?_ | refine S5 ?_ | refine S6 ?_ | refine S7 ?_ | refine S8 ?_ | refine S9 ?_ | refine S10 ?_ | refine S11 ?_ | refine S12 ?_ | refine S13 ?_ | refine S15 ?_ | refine S16 ?_ | refine S19 ?_ | refine S20 ?_ | refine S21 ?_ | refine S22 ?_ | refine S23 ?_ | refine S25 ?_ | refine S26 ?_ | refine S29 ?_ | refine S30 ?_ | refine S33 ?_ | refine S36 ?_ | refine S37 ?_ | refine S38 ?_ | refine S39 ?_ | refine S40 ?_ | refine S41 ?_)
  refine CW.loopS (fun i : Nat => i ≤ l.length ∧ gFrom N l (l.length - i) i = gFrom N l l.length 0 ∧ (0 < i → gAt N l (i - 1) = 0)) (fun i => [(0, pint N), (1, plls l), (17, plls l), (18, pint l.length), (19, pint i)]) (fun _ _ => True) (fun i => l.length - i) 0 ⟨⟨Nat.zero_le _, rfl, fun h => by omega⟩, SLx, trivial⟩ ?_
  rintro i t hp ⟨hi, hg, hpre⟩ _
  first | simp only [updS] | simp only [updL, Nat.reduceAdd]
  by_cases hi2 : i < l.length
  · obtain ⟨d, hd⟩ : ∃ d, l.length - i = d + 1 := ⟨l.length - i - 1, by omega⟩
    rw [hd] at hg
    have hmem : l.getD i [] ∈ l := by rw [show l.getD i [] = l[i] by simp [List.getD, hi2]]; exact List.getElem_mem hi2
    obtain ⟨p, hpd⟩ : ∃ p, p = l.getD i [] := ⟨_, rfl⟩
    have kc := fault_s (hb _ hmem)
    rw [← hpd] at kc
    by_cases hf : permFault p = 0
    · rw [hf] at kc
      have hga : gAt N l i = if p.length ≠ N ∨ p = tabN N (fun i => i) ∨ p = rvT N ∨ (0 < i ∧ tgt N (l.getD (i - 1) []) p = false) then 3 else 0 := by
        unfold gAt; rw [← hpd, if_neg (by rw [hf]; simp)]
      have bad : (p.length ≠ N ∨ p = tabN N (fun i => i) ∨ p = rvT N ∨ (0 < i ∧ tgt N (l.getD (i - 1) []) p = false)) → gFrom N l l.length 0 = 3 := fun h => by
        rw [if_pos h] at hga
        rw [← hg, gFrom_bad (by rw [hga]; decide), hga]
      have good : ¬ (p.length ≠ N ∨ p = tabN N (fun i => i) ∨ p = rvT N ∨ (0 < i ∧ tgt N (l.getD (i - 1) []) p = false)) → gFrom N l (l.length - (i + 1)) (i + 1) = gFrom N l l.length 0 ∧ gAt N l i = 0 := fun h => by
        rw [if_neg h] at hga
        rw [← hg, gFrom_ok hga]
        exact ⟨by congr 1; omega, hga⟩
      repeat (first | refine S0 ?_ | refine S1 ?_ | refine S2 ?_ | refine S4 ?_ | refine S5 ?_ | refine S6 ?_ | refine S7 ?_ | refine S8 ?_ | refine S9 ?_ | refine S10 ?_ | refine S11 ?_ | refine S12 ?_ | refine S13 ?_ | refine S15 ?_ | refine S16 ?_ | refine S19 ?_ | refine S20 ?_ | refine S21 ?_ | refine S22 ?_ | refine S23 ?_ | refine S25 ?_ | refine S26 ?_ | refine S29 ?_ | refine S30 ?_ | refine S33 ?_ | refine S36 ?_ | refine S37 ?_ | refine S38 ?_ | refine S39 ?_ | refine S40 ?_ | refine S41 ?_)
      rw [← hpd]
      refine Scall (args := [pli p]) kc ?_
      by_cases c1 : p.length = N
      · have k1 := equal_s p (tabN N (fun i => i))
        have k2 := equal_s p (rvT N)
        have c1' : (p.length : Int) = (N : Int) := by omega
        repeat (first | refine S0 ?_ | refine S1 ?_ | refine S2 ?_ | refine S4 ?_ | refine S5 ?_ | refine S6 ?_ | refine S7 ?_ | refine S8 ?_ | refine S9 ?_ | refine S10 ?_ | refine S11 ?_ | refine S12 ?_ | refine S13 ?_ | refine S15 ?_ | refine S16 ?_ | refine S19 ?_ | refine S20 ?_ | refine S21 ?_ | refine S22 ?_ | refine S23 ?_ | refine S25 ?_ | refine S26 ?_ | refine S29 ?_ | refine S30 ?_ | refine S33 ?_ | refine S36 ?_ | refine S37 ?_ | refine S38 ?_ | refine S39 ?_ | refine S40 ?_ | refine S41 ?_)
        refine Scall (args := [pint N]) ki ?_
        repeat (first | refine S0 ?_ | refine S1 ?_ | refine S2 ?_ | refine S4 ?_ | refine S5 ?_ | refine S6 ?_ | refine S7 ?_ | refine S8 ?_ | refine S9 ?_ | refine S10 ?_ | refine S11 ?_ | refine S12 ?_ | refine S13 ?_ | refine S15 ?_ | refine S16 ?_ | refine S19 ?_ | refine S20 ?_ | refine S21 ?_ | refine S22 ?_ | refine S23 ?_ | refine S25 ?_ | refine S26 ?_ | refine S29 ?_ | refine S30 ?_ | refine S33 ?_ | refine S36 ?_ | refine S37 ?_ | refine S38 ?_ | refine S39 ?_ | refine S40 ?_ | refine S41 ?_)
        by_cases c2 : p = tabN N (fun i => i)
        · rw [decide_eq_true c2] at k1
          rw [bad (.inr (.inl c2))]
          refine Scall (args := [pli p, pli (tabN N (fun i => i))]) k1 ?_
          repeat (first | refine S0 ?_ | refine S1 ?_ | refine S2 ?_ | refine S4 ?_ | refine S5 ?_ | refine S6 ?_ | refine S7 ?_ | refine S8 ?_ | refine S9 ?_ | refine S10 ?_ | refine S11 ?_ | refine S12 ?_ | refine S13 ?_ | refine S15 ?_ | refine S16 ?_ | refine S19 ?_ | refine S20 ?_ | refine S21 ?_ | refine S22 ?_ | refine S23 ?_ | refine S25 ?_ | refine S26 ?_ | refine S29 ?_ | refine S30 ?_ | refine S33 ?_ | refine S36 ?_ | refine S37 ?_ | refine S38 ?_ | refine S39 ?_ | refine S40 ?_ | refine S41 ?_)
          exact ⟨.inr rfl, .cl rfl⟩
        · rw [decide_eq_false c2] at k1
          refine Scall (args := [pli p, pli (tabN N (fun i => i))]) k1 ?_
          repeat (first | refine S0 ?_ | refine S1 ?_ | refine S2 ?_ | refine S4 ?_ | refine S5 ?_ | refine S6 ?_ | refine S7 ?_ | refine S8 ?_ | refine S9 ?_ | refine S10 ?_ | refine S11 ?_ | refine S12 ?_ | refine S13 ?_ | refine S15 ?_ | refine S16 ?_ | refine S19 ?_ | refine S20 ?_ | refine S21 ?_ | refine S22 ?_ | refine S23 ?_ | refine S25 ?_ | refine S26 ?_ | refine S29 ?_ | refine S30 ?_ | refine S33 ?_ | refine S36 ?_ | refine S37 ?_ | refine S38 ?_ | refine S39 ?_ | refine S40 ?_ | refine S41 ?_)
          refine Scall (args := [pint N]) kh ?_
          repeat (first | refine S0 ?_ | refine S1 ?_ | refine S2 ?_ | refine S4 ?_ | refine S5 ?_ | refine S6 ?_ | refine S7 ?_ | refine S8 ?_ | refine S9 ?_ | refine S10 ?_ | refine S11 ?_ | refine S12 ?_ | refine S13 ?_ | refine S15 ?_ | refine S16 ?_ | refine S19 ?_ | refine S20 ?_ | refine S21 ?_ | refine S22 ?_ | refine S23 ?_ | refine S25 ?_ | refine S26 ?_ | refine S29 ?_ | refine S30 ?_ | refine S33 ?_ | refine S36 ?_ | refine S37 ?_ | refine S38 ?_ | refine S39 ?_ | refine S40 ?_ | refine S41 ?_)
          by_cases c3 : p = rvT N
          · rw [decide_eq_true c3] at k2
            rw [bad (.inr (.inr (.inl c3)))]
            refine Scall (args := [pli p, pli (rvT N)]) k2 ?_
            repeat (first | refine S0 ?_ | refine S1 ?_ | refine S2 ?_ | refine S4 ?_ | refine S5 ?_ | refine S6 ?_ | refine S7 ?_ | refine S8 ?_ | refine S9 ?_ | refine S10 ?_ | refine S11 ?_ | refine S12 ?_ | refine S13 ?_ | refine S15 ?_ | refine S16 ?_ | refine S19 ?_ | refine S20 ?_ | refine S21 ?_ | refine S22 ?_ | refine S23 ?_ | refine S25 ?_ | refine S26 ?_ | refine S29 ?_ | refine S30 ?_ | refine S33 ?_ | refine S36 ?_ | refine S37 ?_ | refine S38 ?_ | refine S39 ?_ | refine S40 ?_ | refine S41 ?_)
            exact ⟨.inr rfl, .cl rfl⟩
          · rw [decide_eq_false c3] at k2
            refine Scall (args := [pli p, pli (rvT N)]) k2 ?_
            by_cases c4 : 0 < i
            · obtain ⟨q1, q2⟩ := gAt_ok (hpre c4)
              have e1 : ((i : Int) - 1).toNat = i - 1 := by omega
              have k3 := tight_s hN q1 q2 c1
              obtain ⟨a, ha⟩ : ∃ a, a = l.getD (i - 1) [] := ⟨_, rfl⟩
              have ha2 : l.getD ((i : Int) - 1).toNat [] = a := by rw [e1, ha]
              rw [← ha] at k3
              by_cases c5 : tgt N a p = false
              · rw [bad (.inr (.inr (.inr ⟨c4, by rw [← ha]; exact c5⟩)))]
                rw [c5] at k3
                repeat (first | refine S0 ?_ | refine S1 ?_ | refine S2 ?_ | refine S4 ?_ | refine S5 ?_ | refine S6 ?_ | refine S7 ?_ | refine S8 ?_ | refine S9 ?_ | refine S10 ?_ | refine S11 ?_ | refine S12 ?_ | refine S13 ?_ | refine S15 ?_ | refine S16 ?_ | refine S19 ?_ | refine S20 ?_ | refine S21 ?_ | refine S22 ?_ | refine S23 ?_ | refine S25 ?_ | refine S26 ?_ | refine S29 ?_ | refine S30 ?_ | refine S33 ?_ | refine S36 ?_ | refine S37 ?_ | refine S38 ?_ | refine S39 ?_ | refine S40 ?_ | refine S41 ?_)
                rw [ha2]
                refine Scall (args := [pli a, pli p]) k3 ?_
                repeat (first | refine S0 ?_ | refine S1 ?_ | refine S2 ?_ | refine S4 ?_ | refine S5 ?_ | refine S6 ?_ | refine S7 ?_ | refine S8 ?_ | refine S9 ?_ | refine S10 ?_ | refine S11 ?_ | refine S12 ?_ | refine S13 ?_ | refine S15 ?_ | refine S16 ?_ | refine S19 ?_ | refine S20 ?_ | refine S21 ?_ | refine S22 ?_ | refine S23 ?_ | refine S25 ?_ | refine S26 ?_ | refine S29 ?_ | refine S30 ?_ | refine S33 ?_ | refine S36 ?_ | refine S37 ?_ | refine S38 ?_ | refine S39 ?_ | refine S40 ?_ | refine S41 ?_)
                exact ⟨.inr rfl, .cl rfl⟩
              · rw [(by simpa using c5 : tgt N a p = true)] at k3
                obtain ⟨g1, g2⟩ := good (fun h => by
                  rcases h with h | h | h | ⟨_, h⟩
                  · exact h c1
                  · exact c2 h
                  · exact c3 h
                  · rw [← ha] at h; exact c5 h)
                repeat (first | refine S0 ?_ | refine S1 ?_ | refine S2 ?_ | refine S4 ?_ | refine S5 ?_ | refine S6 ?_ | refine S7 ?_ | refine S8 ?_ | refine S9 ?_ | refine S10 ?_ | refine S11 ?_ | refine S12 ?_ | refine S13 ?_ | refine S15 ?_ | refine S16 ?_ | refine S19 ?_ | refine S20 ?_ | refine S21 ?_ | refine S22 ?_ | refine S23 ?_ | refine S25 ?_ | refine S26 ?_ | refine S29 ?_ | refine S30 ?_ | refine S33 ?_ | refine S36 ?_ | refine S37 ?_ | refine S38 ?_ | refine S39 ?_ | refine S40 ?_ | refine S41 ?_)
                rw [ha2]
                refine Scall (args := [pli a, pli p]) k3 ?_
                repeat (first | refine S0 ?_ | refine S1 ?_ | refine S2 ?_ | refine S4 ?_ | refine S5 ?_ | refine S6 ?_ | refine S7 ?_ | refine S8 ?_ | refine S9 ?_ | refine S10 ?_ | refine S11 ?_ | refine S12 ?_ | refine S13 ?_ | refine S15 ?_ | refine S16 ?_ | refine S19 ?_ | refine S20 ?_ | refine S21 ?_ | refine S22 ?_ | refine S23 ?_ | refine S25 ?_ | refine S26 ?_ | refine S29 ?_ | refine S30 ?_ | refine S33 ?_ | refine S36 ?_ | refine S37 ?_ | refine S38 ?_ | refine S39 ?_ | refine S40 ?_ | refine S41 ?_)
                exact ⟨i + 1, ⟨hi2, g1, fun _ => g2⟩, SLx, trivial, by omega⟩
            · obtain rfl : i = 0 := by omega
              obtain ⟨g1, g2⟩ := good (fun h => by
                rcases h with h | h | h | ⟨h, _⟩
                · exact h c1
                · exact c2 h
                · exact c3 h
                · exact c4 h)
              repeat (first | refine S0 ?_ | refine S1 ?_ | refine S2 ?_ | refine S4 ?_ | refine S5 ?_ | refine S6 ?_ | refine S7 ?_ | refine S8 ?_ | refine S9 ?_ | refine S10 ?_ | refine S11 ?_ | refine S12 ?_ | refine S13 ?_ | refine S15 ?_ | refine S16 ?_ | refine S19 ?_ | refine S20 ?_ | refine S21 ?_ | refine S22 ?_ | refine S23 ?_ | refine S25 ?_ | refine S26 ?_ | refine S29 ?_ | refine S30 ?_ | refine S33 ?_ | refine S36 ?_ | refine S37 ?_ | refine S38 ?_ | refine S39 ?_ | refine S40 ?_ | refine S41 ?_)
              exact ⟨0 + 1, ⟨hi2, g1, fun _ => g2⟩, SLx, trivial, by omega⟩
      · rw [bad (.inl c1)]
        have c1' : ¬ (p.length : Int) = (N : Int) := by omega
        repeat (first | refine S0 ?_ | refine S1 ?_ | refine S2 ?_ | refine S4 ?_ | refine S5 ?_ | refine S6 ?_ | refine S7 ?_ | refine S8 ?_ | refine S9 ?_ | refine S10 ?_ | refine S11 ?_ | refine S12 ?_ | refine S13 ?_ | refine S15 ?_ | refine S16 ?_ | refine S19 ?_ | refine S20 ?_ | refine S21 ?_ | refine S22 ?_ | refine S23 ?_ | refine S25 ?_ | refine S26 ?_ | refine S29 ?_ | refine S30 ?_ | refine S33 ?_ | refine S36 ?_ | refine S37 ?_ | refine S38 ?_ | refine S39 ?_ | refine S40 ?_ | refine S41 ?_)
        exact ⟨.inr rfl, .cl rfl⟩
    · have hga : gAt N l i = permFault p := by unfold gAt; rw [← hpd, if_pos hf]
      have hgb : gFrom N l l.length 0 = permFault p := by rw [← hg, gFrom_bad (by rw [hga]; exact hf), hga]
      rw [hgb]
      repeat (first | refine S0 ?_ | refine S1 ?_ | refine S2 ?_ | refine S4 ?_ | refine S5 ?_ | refine S6 ?_ | refine S7 ?_ | refine S8 ?_ | refine S9 ?_ | refine S10 ?_ | refine S11 ?_ | refine S12 ?_ | refine S13 ?_ | refine S15 ?_ | refine S16 ?_ | refine S19 ?_ | refine S20 ?_ | refine S21 ?_ | refine S22 ?_ | refine S23 ?_ | refine S25 ?_ | refine S26 ?_ | refine S29 ?_ | refine S30 ?_ | refine S33 ?_ | refine S36 ?_ | refine S37 ?_ | refine S38 ?_ | refine S39 ?_ | refine S40 ?_ | refine S41 ?_)
      rw [← hpd]
      refine Scall (args := [pli p]) kc ?_
      repeat (first | refine S0 ?_ | refine S1 ?_ | refine S2 ?_ | refine S4 ?_ | refine S5 ?_ | refine S6 ?_ | refine S7 ?_ | refine S8 ?_ | refine S9 ?_ | refine S10 ?_ | refine S11 ?_ | refine S12 ?_ | refine S13 ?_ | refine S15 ?_ | refine S16 ?_ | refine S19 ?_ | refine S20 ?_ | refine S21 ?_ | refine S22 ?_ | refine S23 ?_ | refine S25 ?_ | refine S26 ?_ | refine S29 ?_ | refine S30 ?_ | refine S33 ?_ | refine S36 ?_ | refine S37 ?_ | refine S38 ?_ | refine S39 ?_ | refine S40 ?_ | refine S41 ?_)
      exact ⟨.inr rfl, .cl rfl⟩
  · obtain rfl : i = l.length := by omega
    rw [Nat.sub_self] at hg
    rw [← hg]
    repeat (first | refine S0 ?_ | refine S1 ?_ | refine S2 ?_ | refine S4 ?_ | refine S5 ?_ | refine S6 ?_ | refine S7 ?_ | refine S8 ?_ | refine S9 ?_ | refine S10 ?_ | refine S11 ?_ | refine S12 ?_ | refine S13 ?_ | refine S15 ?_ | refine S16 ?_ | refine S19 ?_ | refine S20 ?_ | refine S21 ?_ | refine S22 ?_ | refine S23 ?_ | refine S25 ?_ | refine S26 ?_ | refine S29 ?_ | refine S30 ?_ | refine S33 ?_ | refine S36 ?_ | refine S37 ?_ | refine S38 ?_ | refine S39 ?_ | refine S40 ?_ | refine S41 ?_)
    exact ⟨.inr rfl, .cl rfl⟩
end Go.Proofs.Ytgjfpmjllpgadaa
