/- The law BraidBuraus holds for all numbers and lists. No condition of its own. -/
import Derived.Test.YtenoiklocdoemaaGBraidBurausBU
import Derived.Test.YtenoiklocdoemaaGBraidBurausBX
import Derived.Test.YtenoiklocdoemaaGBraidBurausBY
import Derived.Test.YtenoiklocdoemaaGBraidBurausBE
set_option linter.unusedVariables false
set_option linter.unusedSimpArgs false
namespace Go.Proofs.Ytenoiklocdoemaa
open Go.RowKit

set_option maxHeartbeats 4000000 in
set_option maxRecDepth 100000 in
theorem eqRow_s {l : List Po} {ts : List Tm} {f : FuncId} (hl : l.length = ts.length) (h6 : ts.length ≤ 6) (hf : ∀ k, k < ts.length → SC Try.prog f [ppo (l.getD k (0, [])), ptm (ts.getD k tm0)] (.sc (.bool true))) :
    SC Try.prog 12 [pps l, ptms ts, .clo f []] (.sc (.bool true)) := by
  refine SC.go {} tok mixed Try.func12 rfl rfl Try.ntmps12 rfl rfl (by kernel_rfl) ?_
  first | simp only [updS] | simp only [updL, Nat.reduceAdd]
  repeat (first | refine S0 ?_ | refine S1 ?_ | refine S2 ?_ | refine S3 ?_ | refine S4 ?_ | refine S5 ?_ | refine S6 ?_ | refine S7 ?_ | refine S8 ?_ | refine S9 ?_ | refine S10 ?_ | refine S11 ?_ | refine S13 ?_ | refine S15 ?_ | refine S16 ?_ | refine S19 ?_ | refine S20 ?_ | refine S21 ?_ | refine S22 ?_ | refine S23 ?_ | refine S25 ?_ | refine S26 ?_ | refine S28 ?_ | refine S29 ?_ | refine S30 ?_ | refine S34 ?_ | refine S36 ?_ | refine S37 ?_ | refine S38 ?_ | refine S40 ?_ | refine S41 ?_ | refine S43 ?_ | refine S47 ?_ | refine S48 ?_ | refine S66 ?_ | refine S68 ?_)
  refine CW.loopS (fun k : Nat => k ≤ ts.length) (fun k => [(1, ptms ts), (2, .clo f []), (15, pps l), (16, pint ts.length), (17, pint k)]) (fun _ _ => True) (fun k => ts.length - k) 0 ⟨by omega, by rw [← hl]; exact SLx, trivial⟩ ?_
  rintro k t h hk _
  first | simp only [updS] | simp only [updL, Nat.reduceAdd]
  by_cases hk2 : k < ts.length
  · have hs := hf k hk2
    obtain ⟨p, hp⟩ : ∃ p, p = l.getD k (0, []) := ⟨_, rfl⟩
    obtain ⟨f1, hf1⟩ : ∃ f1, f1 = ts.getD k tm0 := ⟨_, rfl⟩
    rw [← hp, ← hf1] at hs
    repeat (first | refine S0 ?_ | refine S1 ?_ | refine S2 ?_ | refine S3 ?_ | refine S4 ?_ | refine S5 ?_ | refine S6 ?_ | refine S7 ?_ | refine S8 ?_ | refine S9 ?_ | refine S10 ?_ | refine S11 ?_ | refine S13 ?_ | refine S15 ?_ | refine S16 ?_ | refine S19 ?_ | refine S20 ?_ | refine S21 ?_ | refine S22 ?_ | refine S23 ?_ | refine S25 ?_ | refine S26 ?_ | refine S28 ?_ | refine S29 ?_ | refine S30 ?_ | refine S34 ?_ | refine S36 ?_ | refine S37 ?_ | refine S38 ?_ | refine S40 ?_ | refine S41 ?_ | refine S43 ?_ | refine S47 ?_ | refine S48 ?_ | refine S66 ?_ | refine S68 ?_)
    refine AW.ldla (r := [pint p.1, pli p.2]) EVx rfl (by simp only [Int.toNat_natCast, List.length_drop, pos_length]; omega) (by rw [Int.toNat_natCast, hp]; exact pos_at (by omega)) ?_
    repeat (first | refine S0 ?_ | refine S1 ?_ | refine S2 ?_ | refine S3 ?_ | refine S4 ?_ | refine S5 ?_ | refine S6 ?_ | refine S7 ?_ | refine S8 ?_ | refine S9 ?_ | refine S10 ?_ | refine S11 ?_ | refine S13 ?_ | refine S15 ?_ | refine S16 ?_ | refine S19 ?_ | refine S20 ?_ | refine S21 ?_ | refine S22 ?_ | refine S23 ?_ | refine S25 ?_ | refine S26 ?_ | refine S28 ?_ | refine S29 ?_ | refine S30 ?_ | refine S34 ?_ | refine S36 ?_ | refine S37 ?_ | refine S38 ?_ | refine S40 ?_ | refine S41 ?_ | refine S43 ?_ | refine S47 ?_ | refine S48 ?_ | refine S66 ?_ | refine S68 ?_)
    refine AW.ldl EVx rfl (p := ptm f1) (by rw [Int.toNat_natCast, Nat.mul_one, hf1]; exact mapG_drop0 tm0 hk2) ?_
    repeat (first | refine S0 ?_ | refine S1 ?_ | refine S2 ?_ | refine S3 ?_ | refine S4 ?_ | refine S5 ?_ | refine S6 ?_ | refine S7 ?_ | refine S8 ?_ | refine S9 ?_ | refine S10 ?_ | refine S11 ?_ | refine S13 ?_ | refine S15 ?_ | refine S16 ?_ | refine S19 ?_ | refine S20 ?_ | refine S21 ?_ | refine S22 ?_ | refine S23 ?_ | refine S25 ?_ | refine S26 ?_ | refine S28 ?_ | refine S29 ?_ | refine S30 ?_ | refine S34 ?_ | refine S36 ?_ | refine S37 ?_ | refine S38 ?_ | refine S40 ?_ | refine S41 ?_ | refine S43 ?_ | refine S47 ?_ | refine S48 ?_ | refine S66 ?_ | refine S68 ?_)
    obtain ⟨p1, p2⟩ := p
    refine Scallv (args := [ppo (p1, p2), .fmap (mi f1)]) hs ?_
    repeat (first | refine S0 ?_ | refine S1 ?_ | refine S2 ?_ | refine S3 ?_ | refine S4 ?_ | refine S5 ?_ | refine S6 ?_ | refine S7 ?_ | refine S8 ?_ | refine S9 ?_ | refine S10 ?_ | refine S11 ?_ | refine S13 ?_ | refine S15 ?_ | refine S16 ?_ | refine S19 ?_ | refine S20 ?_ | refine S21 ?_ | refine S22 ?_ | refine S23 ?_ | refine S25 ?_ | refine S26 ?_ | refine S28 ?_ | refine S29 ?_ | refine S30 ?_ | refine S34 ?_ | refine S36 ?_ | refine S37 ?_ | refine S38 ?_ | refine S40 ?_ | refine S41 ?_ | refine S43 ?_ | refine S47 ?_ | refine S48 ?_ | refine S66 ?_ | refine S68 ?_)
    exact ⟨k + 1, by omega, SLx, trivial, by omega⟩
  · repeat (first | refine S0 ?_ | refine S1 ?_ | refine S2 ?_ | refine S3 ?_ | refine S4 ?_ | refine S5 ?_ | refine S6 ?_ | refine S7 ?_ | refine S8 ?_ | refine S9 ?_ | refine S10 ?_ | refine S11 ?_ | refine S13 ?_ | refine S15 ?_ | refine S16 ?_ | refine S19 ?_ | refine S20 ?_ | refine S21 ?_ | refine S22 ?_ | refine S23 ?_ | refine S25 ?_ | refine S26 ?_ | refine S28 ?_ | refine S29 ?_ | refine S30 ?_ | refine S34 ?_ | refine S36 ?_ | refine S37 ?_ | refine S38 ?_ | refine S40 ?_ | refine S41 ?_ | refine S43 ?_ | refine S47 ?_ | refine S48 ?_ | refine S66 ?_ | refine S68 ?_)
    exact ⟨.inr rfl, .cl rfl⟩
set_option maxHeartbeats 4000000 in
set_option maxRecDepth 100000 in
theorem eqRows_s {m : List (List Po)} {tm : List (List Tm)} {f : FuncId} (hl : m.length = tm.length) (h6 : tm.length ≤ 6) (hf : ∀ k, k < tm.length → SC Try.prog f [pps (m.getD k []), ptms (tm.getD k [])] (.sc (.bool true))) :
    SC Try.prog 10 [ppss m, ptmss tm, .clo f []] (.sc (.bool true)) := by
  refine SC.go {} tok mixed Try.func10 rfl rfl Try.ntmps10 rfl rfl (by kernel_rfl) ?_
  first | simp only [updS] | simp only [updL, Nat.reduceAdd]
  repeat (first | refine S0 ?_ | refine S1 ?_ | refine S2 ?_ | refine S3 ?_ | refine S4 ?_ | refine S5 ?_ | refine S6 ?_ | refine S7 ?_ | refine S8 ?_ | refine S9 ?_ | refine S10 ?_ | refine S11 ?_ | refine S13 ?_ | refine S15 ?_ | refine S16 ?_ | refine S19 ?_ | refine S20 ?_ | refine S21 ?_ | refine S22 ?_ | refine S23 ?_ | refine S25 ?_ | refine S26 ?_ | refine S28 ?_ | refine S29 ?_ | refine S30 ?_ | refine S34 ?_ | refine S36 ?_ | refine S37 ?_ | refine S38 ?_ | refine S40 ?_ | refine S41 ?_ | refine S43 ?_ | refine S47 ?_ | refine S48 ?_ | refine S66 ?_ | refine S68 ?_)
  refine CW.loopS (fun k : Nat => k ≤ tm.length) (fun k => [(1, ptmss tm), (2, .clo f []), (15, ppss m), (16, pint tm.length), (17, pint k)]) (fun _ _ => True) (fun k => tm.length - k) 0 ⟨by omega, by rw [← hl]; exact SLx, trivial⟩ ?_
  rintro k t h hk _
  first | simp only [updS] | simp only [updL, Nat.reduceAdd]
  by_cases hk2 : k < tm.length
  · have hs := hf k hk2
    repeat (first | refine S0 ?_ | refine S1 ?_ | refine S2 ?_ | refine S3 ?_ | refine S4 ?_ | refine S5 ?_ | refine S6 ?_ | refine S7 ?_ | refine S8 ?_ | refine S9 ?_ | refine S10 ?_ | refine S11 ?_ | refine S13 ?_ | refine S15 ?_ | refine S16 ?_ | refine S19 ?_ | refine S20 ?_ | refine S21 ?_ | refine S22 ?_ | refine S23 ?_ | refine S25 ?_ | refine S26 ?_ | refine S28 ?_ | refine S29 ?_ | refine S30 ?_ | refine S34 ?_ | refine S36 ?_ | refine S37 ?_ | refine S38 ?_ | refine S40 ?_ | refine S41 ?_ | refine S43 ?_ | refine S47 ?_ | refine S48 ?_ | refine S66 ?_ | refine S68 ?_)
    refine Scallv (args := [pps (m.getD k []), ptms (tm.getD k [])]) hs ?_
    repeat (first | refine S0 ?_ | refine S1 ?_ | refine S2 ?_ | refine S3 ?_ | refine S4 ?_ | refine S5 ?_ | refine S6 ?_ | refine S7 ?_ | refine S8 ?_ | refine S9 ?_ | refine S10 ?_ | refine S11 ?_ | refine S13 ?_ | refine S15 ?_ | refine S16 ?_ | refine S19 ?_ | refine S20 ?_ | refine S21 ?_ | refine S22 ?_ | refine S23 ?_ | refine S25 ?_ | refine S26 ?_ | refine S28 ?_ | refine S29 ?_ | refine S30 ?_ | refine S34 ?_ | refine S36 ?_ | refine S37 ?_ | refine S38 ?_ | refine S40 ?_ | refine S41 ?_ | refine S43 ?_ | refine S47 ?_ | refine S48 ?_ | refine S66 ?_ | refine S68 ?_)
    exact ⟨k + 1, by omega, SLx, trivial, by omega⟩
  · repeat (first | refine S0 ?_ | refine S1 ?_ | refine S2 ?_ | refine S3 ?_ | refine S4 ?_ | refine S5 ?_ | refine S6 ?_ | refine S7 ?_ | refine S8 ?_ | refine S9 ?_ | refine S10 ?_ | refine S11 ?_ | refine S13 ?_ | refine S15 ?_ | refine S16 ?_ | refine S19 ?_ | refine S20 ?_ | refine S21 ?_ | refine S22 ?_ | refine S23 ?_ | refine S25 ?_ | refine S26 ?_ | refine S28 ?_ | refine S29 ?_ | refine S30 ?_ | refine S34 ?_ | refine S36 ?_ | refine S37 ?_ | refine S38 ?_ | refine S40 ?_ | refine S41 ?_ | refine S43 ?_ | refine S47 ?_ | refine S48 ?_ | refine S66 ?_ | refine S68 ?_)
    exact ⟨.inr rfl, .cl rfl⟩
set_option maxHeartbeats 4000000 in
set_option maxRecDepth 100000 in
theorem bb11_s {p : Po} {f : Tm} {a : LP} {B : Nat} (h : IsT B f a) (h64 : T64 f) (hB : B ≤ 1000000) (hp : p = poW a) : SC Try.prog 13 [ppo p, ptm f] (.sc (.bool true)) := by
  have k1 := polyW_s h h64 hB
  have k2 := same_s p (poW a)
  rw [decide_eq_true hp] at k2
  obtain ⟨q, hq⟩ : ∃ q, q = poW a := ⟨_, rfl⟩
  rw [← hq] at k1 k2
  obtain ⟨l1, c1⟩ := p
  obtain ⟨l2, c2⟩ := q
  refine SC.go { pc := [7, 8] } tok mixed Try.func13 rfl rfl Try.ntmps13 rfl rfl (by kernel_rfl) ?_
  first | simp only [updS] | simp only [updL, Nat.reduceAdd]
  repeat (first | refine S0 ?_ | refine S1 ?_ | refine S2 ?_ | refine S3 ?_ | refine S4 ?_ | refine S5 ?_ | refine S6 ?_ | refine S7 ?_ | refine S8 ?_ | refine S9 ?_ | refine S10 ?_ | refine S11 ?_ | refine S13 ?_ | refine S15 ?_ | refine S16 ?_ | refine S19 ?_ | refine S20 ?_ | refine S21 ?_ | refine S22 ?_ | refine S23 ?_ | refine S25 ?_ | refine S26 ?_ | refine S28 ?_ | refine S29 ?_ | refine S30 ?_ | refine S34 ?_ | refine S36 ?_ | refine S37 ?_ | refine S38 ?_ | refine S40 ?_ | refine S41 ?_ | refine S43 ?_ | refine S47 ?_ | refine S48 ?_ | refine S66 ?_ | refine S68 ?_)
  refine Scall (args := [ptm f]) k1 ?_
  repeat (first | refine S0 ?_ | refine S1 ?_ | refine S2 ?_ | refine S3 ?_ | refine S4 ?_ | refine S5 ?_ | refine S6 ?_ | refine S7 ?_ | refine S8 ?_ | refine S9 ?_ | refine S10 ?_ | refine S11 ?_ | refine S13 ?_ | refine S15 ?_ | refine S16 ?_ | refine S19 ?_ | refine S20 ?_ | refine S21 ?_ | refine S22 ?_ | refine S23 ?_ | refine S25 ?_ | refine S26 ?_ | refine S28 ?_ | refine S29 ?_ | refine S30 ?_ | refine S34 ?_ | refine S36 ?_ | refine S37 ?_ | refine S38 ?_ | refine S40 ?_ | refine S41 ?_ | refine S43 ?_ | refine S47 ?_ | refine S48 ?_ | refine S66 ?_ | refine S68 ?_)
  refine Scall (args := [ppo (l1, c1), ppo (l2, c2)]) k2 ?_
  repeat (first | refine S0 ?_ | refine S1 ?_ | refine S2 ?_ | refine S3 ?_ | refine S4 ?_ | refine S5 ?_ | refine S6 ?_ | refine S7 ?_ | refine S8 ?_ | refine S9 ?_ | refine S10 ?_ | refine S11 ?_ | refine S13 ?_ | refine S15 ?_ | refine S16 ?_ | refine S19 ?_ | refine S20 ?_ | refine S21 ?_ | refine S22 ?_ | refine S23 ?_ | refine S25 ?_ | refine S26 ?_ | refine S28 ?_ | refine S29 ?_ | refine S30 ?_ | refine S34 ?_ | refine S36 ?_ | refine S37 ?_ | refine S38 ?_ | refine S40 ?_ | refine S41 ?_ | refine S43 ?_ | refine S47 ?_ | refine S48 ?_ | refine S66 ?_ | refine S68 ?_)
  exact ⟨.inr rfl, .cl rfl⟩
set_option maxHeartbeats 4000000 in
set_option maxRecDepth 100000 in
theorem bb1_s {l : List Po} {ts : List Tm} (hl : l.length = ts.length) (h6 : ts.length ≤ 6) (hf : ∀ k, k < ts.length → SC Try.prog 13 [ppo (l.getD k (0, [])), ptm (ts.getD k tm0)] (.sc (.bool true))) : SC Try.prog 11 [pps l, ptms ts] (.sc (.bool true)) := by
  have k := eqRow_s hl h6 hf
  refine SC.go {} tok mixed Try.func11 rfl rfl Try.ntmps11 rfl rfl (by kernel_rfl) ?_
  first | simp only [updS] | simp only [updL, Nat.reduceAdd]
  repeat (first | refine S0 ?_ | refine S1 ?_ | refine S2 ?_ | refine S3 ?_ | refine S4 ?_ | refine S5 ?_ | refine S6 ?_ | refine S7 ?_ | refine S8 ?_ | refine S9 ?_ | refine S10 ?_ | refine S11 ?_ | refine S13 ?_ | refine S15 ?_ | refine S16 ?_ | refine S19 ?_ | refine S20 ?_ | refine S21 ?_ | refine S22 ?_ | refine S23 ?_ | refine S25 ?_ | refine S26 ?_ | refine S28 ?_ | refine S29 ?_ | refine S30 ?_ | refine S34 ?_ | refine S36 ?_ | refine S37 ?_ | refine S38 ?_ | refine S40 ?_ | refine S41 ?_ | refine S43 ?_ | refine S47 ?_ | refine S48 ?_ | refine S66 ?_ | refine S68 ?_)
  refine Scall (args := [pps l, ptms ts, .clo 13 []]) k ?_
  repeat (first | refine S0 ?_ | refine S1 ?_ | refine S2 ?_ | refine S3 ?_ | refine S4 ?_ | refine S5 ?_ | refine S6 ?_ | refine S7 ?_ | refine S8 ?_ | refine S9 ?_ | refine S10 ?_ | refine S11 ?_ | refine S13 ?_ | refine S15 ?_ | refine S16 ?_ | refine S19 ?_ | refine S20 ?_ | refine S21 ?_ | refine S22 ?_ | refine S23 ?_ | refine S25 ?_ | refine S26 ?_ | refine S28 ?_ | refine S29 ?_ | refine S30 ?_ | refine S34 ?_ | refine S36 ?_ | refine S37 ?_ | refine S38 ?_ | refine S40 ?_ | refine S41 ?_ | refine S43 ?_ | refine S47 ?_ | refine S48 ?_ | refine S66 ?_ | refine S68 ?_)
  exact ⟨.inr rfl, .cl rfl⟩
theorem burauF_cases (n : Int) (w : List Int) : (bF n w ≠ 0 ∧ burauF n w = bF n w) ∨ (bF n w = 0 ∧ 16 < w.length ∧ burauF n w = 2) ∨ (bF n w = 0 ∧ ¬ 16 < w.length ∧ burauF n w = 0) := by
  unfold burauF
  by_cases h0 : bF n w ≠ 0
  · exact .inl ⟨h0, if_pos h0⟩
  · by_cases h1 : 16 < w.length
    · exact .inr (.inl ⟨by omega, h1, by rw [if_neg h0, if_pos h1]⟩)
    · exact .inr (.inr ⟨by omega, h1, by rw [if_neg h0, if_neg h1]⟩)
theorem bF_wf {n : Int} {w : List Int} (h : bF n w = 0) : (1 ≤ n ∧ n ≤ 6) ∧ w.length ≤ 30 ∧ ∀ x ∈ w, letP n x := by
  unfold bF at h
  split at h
  · omega
  · split at h
    · omega
    · split at h
      · rename_i q1 q2 q3
        exact ⟨by omega, by omega, q3⟩
      · omega
set_option maxHeartbeats 16000000 in
set_option maxRecDepth 100000 in
theorem braidBuraus_s (n : Int) (w : List Int) : SC Try.prog 3 [pint n, pli w] (.sc (.bool true)) := by
  have kb := burau_s n w
  have kf := bfault_s n w
  have ke := braided_s
  have hb1 : 0 ≤ bF n w ∧ bF n w ≤ 3 := by unfold bF; repeat' split
                                           all_goals omega
  refine SC.go {} tok mixed Try.func3 rfl rfl Try.ntmps3 rfl rfl (by kernel_rfl) ?_
  first | simp only [updS] | simp only [updL, Nat.reduceAdd]
  rcases burauF_cases n w with ⟨h0, e1⟩ | ⟨h0, h1, e1⟩ | ⟨h0, h1, e1⟩
  · have e2 : burR n w = [] := by unfold burR; rw [if_neg (by rw [e1]; exact h0)]
    rw [e1, e2] at kb
    generalize bF n w = E at *
    repeat (first | refine S0 ?_ | refine S1 ?_ | refine S2 ?_ | refine S3 ?_ | refine S4 ?_ | refine S5 ?_ | refine S6 ?_ | refine S7 ?_ | refine S8 ?_ | refine S9 ?_ | refine S10 ?_ | refine S11 ?_ | refine S13 ?_ | refine S15 ?_ | refine S16 ?_ | refine S19 ?_ | refine S20 ?_ | refine S21 ?_ | refine S22 ?_ | refine S23 ?_ | refine S25 ?_ | refine S26 ?_ | refine S28 ?_ | refine S29 ?_ | refine S30 ?_ | refine S34 ?_ | refine S36 ?_ | refine S37 ?_ | refine S38 ?_ | refine S40 ?_ | refine S41 ?_ | refine S43 ?_ | refine S47 ?_ | refine S48 ?_ | refine S66 ?_ | refine S68 ?_)
    refine Scall (args := [pint n, pli w]) kb ?_
    repeat (first | refine S0 ?_ | refine S1 ?_ | refine S2 ?_ | refine S3 ?_ | refine S4 ?_ | refine S5 ?_ | refine S6 ?_ | refine S7 ?_ | refine S8 ?_ | refine S9 ?_ | refine S10 ?_ | refine S11 ?_ | refine S13 ?_ | refine S15 ?_ | refine S16 ?_ | refine S19 ?_ | refine S20 ?_ | refine S21 ?_ | refine S22 ?_ | refine S23 ?_ | refine S25 ?_ | refine S26 ?_ | refine S28 ?_ | refine S29 ?_ | refine S30 ?_ | refine S34 ?_ | refine S36 ?_ | refine S37 ?_ | refine S38 ?_ | refine S40 ?_ | refine S41 ?_ | refine S43 ?_ | refine S47 ?_ | refine S48 ?_ | refine S66 ?_ | refine S68 ?_)
    refine Scall (args := [pint n, pli w]) kf ?_
    repeat (first | refine S0 ?_ | refine S1 ?_ | refine S2 ?_ | refine S3 ?_ | refine S4 ?_ | refine S5 ?_ | refine S6 ?_ | refine S7 ?_ | refine S8 ?_ | refine S9 ?_ | refine S10 ?_ | refine S11 ?_ | refine S13 ?_ | refine S15 ?_ | refine S16 ?_ | refine S19 ?_ | refine S20 ?_ | refine S21 ?_ | refine S22 ?_ | refine S23 ?_ | refine S25 ?_ | refine S26 ?_ | refine S28 ?_ | refine S29 ?_ | refine S30 ?_ | refine S34 ?_ | refine S36 ?_ | refine S37 ?_ | refine S38 ?_ | refine S40 ?_ | refine S41 ?_ | refine S43 ?_ | refine S47 ?_ | refine S48 ?_ | refine S66 ?_ | refine S68 ?_)
    refine Scall (args := []) ke ?_
    repeat (first | refine S0 ?_ | refine S1 ?_ | refine S2 ?_ | refine S3 ?_ | refine S4 ?_ | refine S5 ?_ | refine S6 ?_ | refine S7 ?_ | refine S8 ?_ | refine S9 ?_ | refine S10 ?_ | refine S11 ?_ | refine S13 ?_ | refine S15 ?_ | refine S16 ?_ | refine S19 ?_ | refine S20 ?_ | refine S21 ?_ | refine S22 ?_ | refine S23 ?_ | refine S25 ?_ | refine S26 ?_ | refine S28 ?_ | refine S29 ?_ | refine S30 ?_ | refine S34 ?_ | refine S36 ?_ | refine S37 ?_ | refine S38 ?_ | refine S40 ?_ | refine S41 ?_ | refine S43 ?_ | refine S47 ?_ | refine S48 ?_ | refine S66 ?_ | refine S68 ?_)
    exact ⟨.inr rfl, .cl rfl⟩
  · have e2 : burR n w = [] := by unfold burR; rw [if_neg (by rw [e1]; omega)]
    rw [e1, e2] at kb
    rw [h0] at kf
    repeat (first | refine S0 ?_ | refine S1 ?_ | refine S2 ?_ | refine S3 ?_ | refine S4 ?_ | refine S5 ?_ | refine S6 ?_ | refine S7 ?_ | refine S8 ?_ | refine S9 ?_ | refine S10 ?_ | refine S11 ?_ | refine S13 ?_ | refine S15 ?_ | refine S16 ?_ | refine S19 ?_ | refine S20 ?_ | refine S21 ?_ | refine S22 ?_ | refine S23 ?_ | refine S25 ?_ | refine S26 ?_ | refine S28 ?_ | refine S29 ?_ | refine S30 ?_ | refine S34 ?_ | refine S36 ?_ | refine S37 ?_ | refine S38 ?_ | refine S40 ?_ | refine S41 ?_ | refine S43 ?_ | refine S47 ?_ | refine S48 ?_ | refine S66 ?_ | refine S68 ?_)
    refine Scall (args := [pint n, pli w]) kb ?_
    repeat (first | refine S0 ?_ | refine S1 ?_ | refine S2 ?_ | refine S3 ?_ | refine S4 ?_ | refine S5 ?_ | refine S6 ?_ | refine S7 ?_ | refine S8 ?_ | refine S9 ?_ | refine S10 ?_ | refine S11 ?_ | refine S13 ?_ | refine S15 ?_ | refine S16 ?_ | refine S19 ?_ | refine S20 ?_ | refine S21 ?_ | refine S22 ?_ | refine S23 ?_ | refine S25 ?_ | refine S26 ?_ | refine S28 ?_ | refine S29 ?_ | refine S30 ?_ | refine S34 ?_ | refine S36 ?_ | refine S37 ?_ | refine S38 ?_ | refine S40 ?_ | refine S41 ?_ | refine S43 ?_ | refine S47 ?_ | refine S48 ?_ | refine S66 ?_ | refine S68 ?_)
    refine Scall (args := [pint n, pli w]) kf ?_
    repeat (first | refine S0 ?_ | refine S1 ?_ | refine S2 ?_ | refine S3 ?_ | refine S4 ?_ | refine S5 ?_ | refine S6 ?_ | refine S7 ?_ | refine S8 ?_ | refine S9 ?_ | refine S10 ?_ | refine S11 ?_ | refine S13 ?_ | refine S15 ?_ | refine S16 ?_ | refine S19 ?_ | refine S20 ?_ | refine S21 ?_ | refine S22 ?_ | refine S23 ?_ | refine S25 ?_ | refine S26 ?_ | refine S28 ?_ | refine S29 ?_ | refine S30 ?_ | refine S34 ?_ | refine S36 ?_ | refine S37 ?_ | refine S38 ?_ | refine S40 ?_ | refine S41 ?_ | refine S43 ?_ | refine S47 ?_ | refine S48 ?_ | refine S66 ?_ | refine S68 ?_)
    refine Scall (args := []) ke ?_
    repeat (first | refine S0 ?_ | refine S1 ?_ | refine S2 ?_ | refine S3 ?_ | refine S4 ?_ | refine S5 ?_ | refine S6 ?_ | refine S7 ?_ | refine S8 ?_ | refine S9 ?_ | refine S10 ?_ | refine S11 ?_ | refine S13 ?_ | refine S15 ?_ | refine S16 ?_ | refine S19 ?_ | refine S20 ?_ | refine S21 ?_ | refine S22 ?_ | refine S23 ?_ | refine S25 ?_ | refine S26 ?_ | refine S28 ?_ | refine S29 ?_ | refine S30 ?_ | refine S34 ?_ | refine S36 ?_ | refine S37 ?_ | refine S38 ?_ | refine S40 ?_ | refine S41 ?_ | refine S43 ?_ | refine S47 ?_ | refine S48 ?_ | refine S66 ?_ | refine S68 ?_)
    exact ⟨.inr rfl, .cl rfl⟩
  · obtain ⟨hn, hl, hw⟩ := bF_wf h0
    obtain ⟨N, rfl⟩ : ∃ N : Nat, n = (N : Int) := ⟨n.toNat, by omega⟩
    have e2 : burR N w = (List.range N).map (rowP (burM w) N) := by unfold burR; rw [if_pos e1, Int.toNat_natCast]
    rw [e1, e2] at kb
    rw [h0] at kf
    obtain ⟨tm, hM, kr⟩ := rburau_s (n := N) (by omega) w.length w (Nat.le_refl _) (by omega) hw
    have hlt := hM.m.len
    have kq := eqRows_s (m := (List.range N).map (rowP (burM w) N)) (tm := tm) (f := 11) (by simp [hlt]) (by omega) (fun k hk => by
      have hk' : k < N := by omega
      have hr := hM.m.row k hk'
      rw [show ((List.range N).map (rowP (burM w) N)).getD k [] = rowP (burM w) N k by simp [List.getD, hk']]
      refine bb1_s (by rw [rowP_len, hr]) (by omega) (fun c hc => ?_)
      have hc' : c < N := by omega
      exact bb11_s (hM.m.is k c hk' hc') (hM.v k c hk' hc') (by omega) (rowP_get _ hc'))
    generalize (List.range N).map (rowP (burM w) N) = m at *
    repeat (first | refine S0 ?_ | refine S1 ?_ | refine S2 ?_ | refine S3 ?_ | refine S4 ?_ | refine S5 ?_ | refine S6 ?_ | refine S7 ?_ | refine S8 ?_ | refine S9 ?_ | refine S10 ?_ | refine S11 ?_ | refine S13 ?_ | refine S15 ?_ | refine S16 ?_ | refine S19 ?_ | refine S20 ?_ | refine S21 ?_ | refine S22 ?_ | refine S23 ?_ | refine S25 ?_ | refine S26 ?_ | refine S28 ?_ | refine S29 ?_ | refine S30 ?_ | refine S34 ?_ | refine S36 ?_ | refine S37 ?_ | refine S38 ?_ | refine S40 ?_ | refine S41 ?_ | refine S43 ?_ | refine S47 ?_ | refine S48 ?_ | refine S66 ?_ | refine S68 ?_)
    refine Scall (args := [pint N, pli w]) kb ?_
    repeat (first | refine S0 ?_ | refine S1 ?_ | refine S2 ?_ | refine S3 ?_ | refine S4 ?_ | refine S5 ?_ | refine S6 ?_ | refine S7 ?_ | refine S8 ?_ | refine S9 ?_ | refine S10 ?_ | refine S11 ?_ | refine S13 ?_ | refine S15 ?_ | refine S16 ?_ | refine S19 ?_ | refine S20 ?_ | refine S21 ?_ | refine S22 ?_ | refine S23 ?_ | refine S25 ?_ | refine S26 ?_ | refine S28 ?_ | refine S29 ?_ | refine S30 ?_ | refine S34 ?_ | refine S36 ?_ | refine S37 ?_ | refine S38 ?_ | refine S40 ?_ | refine S41 ?_ | refine S43 ?_ | refine S47 ?_ | refine S48 ?_ | refine S66 ?_ | refine S68 ?_)
    refine Scall (args := [pint N, pli w]) kf ?_
    repeat (first | refine S0 ?_ | refine S1 ?_ | refine S2 ?_ | refine S3 ?_ | refine S4 ?_ | refine S5 ?_ | refine S6 ?_ | refine S7 ?_ | refine S8 ?_ | refine S9 ?_ | refine S10 ?_ | refine S11 ?_ | refine S13 ?_ | refine S15 ?_ | refine S16 ?_ | refine S19 ?_ | refine S20 ?_ | refine S21 ?_ | refine S22 ?_ | refine S23 ?_ | refine S25 ?_ | refine S26 ?_ | refine S28 ?_ | refine S29 ?_ | refine S30 ?_ | refine S34 ?_ | refine S36 ?_ | refine S37 ?_ | refine S38 ?_ | refine S40 ?_ | refine S41 ?_ | refine S43 ?_ | refine S47 ?_ | refine S48 ?_ | refine S66 ?_ | refine S68 ?_)
    refine Scall (args := []) ke ?_
    repeat (first | refine S0 ?_ | refine S1 ?_ | refine S2 ?_ | refine S3 ?_ | refine S4 ?_ | refine S5 ?_ | refine S6 ?_ | refine S7 ?_ | refine S8 ?_ | refine S9 ?_ | refine S10 ?_ | refine S11 ?_ | refine S13 ?_ | refine S15 ?_ | refine S16 ?_ | refine S19 ?_ | refine S20 ?_ | refine S21 ?_ | refine S22 ?_ | refine S23 ?_ | refine S25 ?_ | refine S26 ?_ | refine S28 ?_ | refine S29 ?_ | refine S30 ?_ | refine S34 ?_ | refine S36 ?_ | refine S37 ?_ | refine S38 ?_ | refine S40 ?_ | refine S41 ?_ | refine S43 ?_ | refine S47 ?_ | refine S48 ?_ | refine S66 ?_ | refine S68 ?_)
    refine Scall (args := [pint N, pli w]) kr ?_
    repeat (first | refine S0 ?_ | refine S1 ?_ | refine S2 ?_ | refine S3 ?_ | refine S4 ?_ | refine S5 ?_ | refine S6 ?_ | refine S7 ?_ | refine S8 ?_ | refine S9 ?_ | refine S10 ?_ | refine S11 ?_ | refine S13 ?_ | refine S15 ?_ | refine S16 ?_ | refine S19 ?_ | refine S20 ?_ | refine S21 ?_ | refine S22 ?_ | refine S23 ?_ | refine S25 ?_ | refine S26 ?_ | refine S28 ?_ | refine S29 ?_ | refine S30 ?_ | refine S34 ?_ | refine S36 ?_ | refine S37 ?_ | refine S38 ?_ | refine S40 ?_ | refine S41 ?_ | refine S43 ?_ | refine S47 ?_ | refine S48 ?_ | refine S66 ?_ | refine S68 ?_)
    refine Scall (args := [ppss m, ptmss tm, .clo 11 []]) kq ?_
    repeat (first | refine S0 ?_ | refine S1 ?_ | refine S2 ?_ | refine S3 ?_ | refine S4 ?_ | refine S5 ?_ | refine S6 ?_ | refine S7 ?_ | refine S8 ?_ | refine S9 ?_ | refine S10 ?_ | refine S11 ?_ | refine S13 ?_ | refine S15 ?_ | refine S16 ?_ | refine S19 ?_ | refine S20 ?_ | refine S21 ?_ | refine S22 ?_ | refine S23 ?_ | refine S25 ?_ | refine S26 ?_ | refine S28 ?_ | refine S29 ?_ | refine S30 ?_ | refine S34 ?_ | refine S36 ?_ | refine S37 ?_ | refine S38 ?_ | refine S40 ?_ | refine S41 ?_ | refine S43 ?_ | refine S47 ?_ | refine S48 ?_ | refine S66 ?_ | refine S68 ?_)
    exact ⟨.inr rfl, .cl rfl⟩
end Go.Proofs.Ytenoiklocdoemaa
