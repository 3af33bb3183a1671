/- The reference's Burau matrix, by halves. No condition of its own. -/
import Derived.Test.YtenoiklocdoemaaGBraidBurausBS
import Derived.Test.YtenoiklocdoemaaGBraidBurausBT
set_option linter.unusedVariables false
set_option linter.unusedSimpArgs false
namespace Go.Proofs.Ytenoiklocdoemaa
open Go.RowKit

set_option maxHeartbeats 8000000 in
set_option maxRecDepth 100000 in
theorem rburau0_s {n : Nat} (hn : 1 ≤ n ∧ n ≤ 6) : SC Try.prog 9 [pint n, pli []] (ptmss (matT unitT n)) := by
  refine SC.go { pc := [18, 25, 26], rl := [43, 50, 55, 61, 78, 85, 90, 96], am := [63, 65, 67, 69, 98, 99, 101, 103], sq := [70, 71, 72, 73, 105, 106, 107, 108] } tok mixed Try.func9 rfl rfl Try.ntmps9 rfl rfl (code3_ok (by kernel_rfl)) ?_
  first | simp only [updS] | simp only [updL, Nat.reduceAdd]
  repeat (first | refine S0 ?_ | refine S1 ?_ | refine S2 ?_ | refine S3 ?_ | refine S4 ?_ | refine S5 ?_ | refine S6 ?_ | refine S7 ?_ | refine S8 ?_ | refine S9 ?_ | refine S10 ?_ | refine S13 ?_ | refine S15 ?_ | refine S16 ?_ | refine S19 ?_ | refine S20 ?_ | refine S21 ?_ | refine S23 ?_ | refine S30 ?_ | refine S52 ?_ | refine S59 ?_ | refine S60 ?_)
  refine Scalle (args := [pint n]) (unit_e hn.2 _) ?_
  rintro r h' ⟨T, tk, rfl, R, F, G, hTg⟩
  repeat (first | refine S0 ?_ | refine S1 ?_ | refine S2 ?_ | refine S3 ?_ | refine S4 ?_ | refine S5 ?_ | refine S6 ?_ | refine S7 ?_ | refine S8 ?_ | refine S9 ?_ | refine S10 ?_ | refine S13 ?_ | refine S15 ?_ | refine S16 ?_ | refine S19 ?_ | refine S20 ?_ | refine S21 ?_ | refine S23 ?_ | refine S30 ?_ | refine S52 ?_ | refine S59 ?_ | refine S60 ?_)
  refine CW.loopS (fun _ : Unit => True) (fun _ => [(5, .ref T 0 1 n), (29, pli []), (30, pint (0 : Nat)), (31, pint (0 : Nat))]) (fun _ hp => RowsM n n T tk (rowT unitT n) hp) (fun _ => 0) () ⟨trivial, SLx, R⟩ ?_
  rintro ⟨⟩ t h1 _ R1
  first | simp only [updS] | simp only [updL, Nat.reduceAdd]
  repeat (first | refine S0 ?_ | refine S1 ?_ | refine S2 ?_ | refine S3 ?_ | refine S4 ?_ | refine S5 ?_ | refine S6 ?_ | refine S7 ?_ | refine S8 ?_ | refine S9 ?_ | refine S10 ?_ | refine S13 ?_ | refine S15 ?_ | refine S16 ?_ | refine S19 ?_ | refine S20 ?_ | refine S21 ?_ | refine S23 ?_ | refine S30 ?_ | refine S52 ?_ | refine S59 ?_ | refine S60 ?_)
  exact ⟨.inr rfl, frzM R1⟩
theorem burM_sup' (w : List Int) (r c : Nat) : Sup ((w.length : Nat) : Int) (burM w r c) := burM_sup w r c
set_option maxHeartbeats 16000000 in
set_option maxRecDepth 100000 in
/-- the reference's matrix stands for the Burau matrix -/
theorem rburau_s {n : Nat} (hn : 1 ≤ n ∧ n ≤ 6) : ∀ (k : Nat) (w : List Int), w.length ≤ k → w.length ≤ 300 → (∀ x ∈ w, letP n x) → ∃ tm, TMz tm n w.length (burM w) ∧ SC Try.prog 9 [pint n, pli w] (ptmss tm)
  | k, w, hk, h3, hw => by
    by_cases hl : w.length ≤ 1
    · by_cases h0 : w.length = 0
      · obtain rfl := List.eq_nil_of_length_eq_zero h0
        refine ⟨_, ?_, rburau0_s hn⟩
        exact matT_ok hn.2 (by simp) (fun _ _ => unit_is _ _) unit_64 (burM_sup' [])
      · obtain ⟨x, rfl⟩ : ∃ x, w = [x] := by
          match w, hl, h0 with
          | [x], _, _ => exact ⟨x, rfl⟩
          | [], _, h => exact absurd rfl h
          | _ :: _ :: _, h, _ => simp at h
        have hx := hw x (by simp)
        refine ⟨matT (letterT x) n, ?_, (if hs : 0 < x then rburauP_s hn x hx hs else rburauN_s hn x hx (by have := hx.1; omega))⟩
        exact matT_ok hn.2 (by simp) (letter_is (hw x (by simp)).1) (letter_64 x) (burM_sup' [x])
    · match k, hk with
      | 0, hk => omega
      | k + 1, hk =>
        have hu : (w.take (w.length / 2)).length = w.length / 2 := by simp; omega
        have hv : (w.drop (w.length / 2)).length = w.length - w.length / 2 := by simp
        obtain ⟨A, hA, kA⟩ := rburau_s hn k (w.take (w.length / 2)) (by omega) (by omega) (fun x hx => hw x (List.mem_of_mem_take hx))
        obtain ⟨B, hB, kB⟩ := rburau_s hn k (w.drop (w.length / 2)) (by omega) (by omega) (fun x hx => hw x (List.mem_of_mem_drop hx))
        have hlet : ∀ x ∈ w.drop (w.length / 2), 1 ≤ x.natAbs ∧ x.natAbs < n := fun x hx => by
          obtain ⟨q1, q2, q3⟩ := hw x (List.mem_of_mem_drop hx)
          omega
        have hb : (w.take (w.length / 2)).length + (w.drop (w.length / 2)).length = w.length := by omega
        have hP := prod_ok (L := burM w) hA.m hB.m (by omega) (fun i j hi hj => by
          have := burM_app (n := n) (w.take (w.length / 2)) _ (w.drop (w.length / 2)) rfl hlet i j hi hj
          rwa [List.take_append_drop] at this) (fun i j => by rw [hb]; exact burM_sup' w i j)
        rw [hb] at hP
        refine ⟨prodL A B n, hP, ?_⟩
        have kp := product_s hA.m hB.m
        generalize prodL A B n = C at *
        have hdiv : Int.tdiv (w.length : Int) 2 = ((w.length / 2 : Nat) : Int) := rfl
        refine SC.go { pc := [18, 25, 26], rl := [43, 50, 55, 61, 78, 85, 90, 96], am := [63, 65, 67, 69, 98, 99, 101, 103], sq := [70, 71, 72, 73, 105, 106, 107, 108] } tok mixed Try.func9 rfl rfl Try.ntmps9 rfl rfl (code3_ok (by kernel_rfl)) ?_
        first | simp only [updS] | simp only [updL, Nat.reduceAdd]
        repeat (first | refine S0 ?_ | refine S1 ?_ | refine S2 ?_ | refine S3 ?_ | refine S4 ?_ | refine S5 ?_ | refine S6 ?_ | refine S7 ?_ | refine S8 ?_ | refine S9 ?_ | refine S10 ?_ | refine S13 ?_ | refine S15 ?_ | refine S16 ?_ | refine S19 ?_ | refine S20 ?_ | refine S21 ?_ | refine S23 ?_ | refine S30 ?_ | refine S52 ?_ | refine S59 ?_ | refine S60 ?_)
        rw [show ((w.length : Int) / 2).toNat = w.length / 2 by omega]
        refine Scall (args := [pint n, pli (w.take (w.length / 2))]) kA ?_
        repeat (first | refine S0 ?_ | refine S1 ?_ | refine S2 ?_ | refine S3 ?_ | refine S4 ?_ | refine S5 ?_ | refine S6 ?_ | refine S7 ?_ | refine S8 ?_ | refine S9 ?_ | refine S10 ?_ | refine S13 ?_ | refine S15 ?_ | refine S16 ?_ | refine S19 ?_ | refine S20 ?_ | refine S21 ?_ | refine S23 ?_ | refine S30 ?_ | refine S52 ?_ | refine S59 ?_ | refine S60 ?_)
        rw [show ((w.length : Int) / 2).toNat = w.length / 2 by omega]
        refine Scall (args := [pint n, pli (w.drop (w.length / 2))]) kB ?_
        repeat (first | refine S0 ?_ | refine S1 ?_ | refine S2 ?_ | refine S3 ?_ | refine S4 ?_ | refine S5 ?_ | refine S6 ?_ | refine S7 ?_ | refine S8 ?_ | refine S9 ?_ | refine S10 ?_ | refine S13 ?_ | refine S15 ?_ | refine S16 ?_ | refine S19 ?_ | refine S20 ?_ | refine S21 ?_ | refine S23 ?_ | refine S30 ?_ | refine S52 ?_ | refine S59 ?_ | refine S60 ?_)
        refine Scall (args := [ptmss A, ptmss B]) kp ?_
        repeat (first | refine S0 ?_ | refine S1 ?_ | refine S2 ?_ | refine S3 ?_ | refine S4 ?_ | refine S5 ?_ | refine S6 ?_ | refine S7 ?_ | refine S8 ?_ | refine S9 ?_ | refine S10 ?_ | refine S13 ?_ | refine S15 ?_ | refine S16 ?_ | refine S19 ?_ | refine S20 ?_ | refine S21 ?_ | refine S23 ?_ | refine S30 ?_ | refine S52 ?_ | refine S59 ?_ | refine S60 ?_)
        exact ⟨.inr rfl, .cl (ptmss_cl _)⟩
end Go.Proofs.Ytenoiklocdoemaa
