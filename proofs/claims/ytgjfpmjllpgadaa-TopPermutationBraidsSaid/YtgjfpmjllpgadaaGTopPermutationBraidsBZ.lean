/- The law TopPermutationBraids holds for all numbers and lists. No condition of its own. -/
import Derived.Test.YtgjfpmjllpgadaaGTopPermutationBraidsBS
import Derived.Test.YtgjfpmjllpgadaaGTopPermutationBraidsBT
import Derived.Test.YtgjfpmjllpgadaaGTopPermutationBraidsBU
import Derived.Test.YtgjfpmjllpgadaaGTopPermutationBraidsBY
import Derived.Test.YtgjfpmjllpgadaaGTopPermutationBraidsAW
set_option linter.unusedVariables false
set_option linter.unusedSimpArgs false
namespace Go.Proofs.Ytgjfpmjllpgadaa
open Go.RowKit

theorem tperm1_s (x : Int) : SC Try.prog 61 [pint x] (.sc (.bool (decide (x < 1)))) := by
  refine SC.go {} tok mixed Try.func61 rfl rfl Try.ntmps61 rfl rfl (by kernel_rfl) ?_
  first | simp only [updS] | simp only [updL, Nat.reduceAdd]
  repeat (first | refine S0 ?_ | refine S1 ?_ | refine S2 ?_ | refine S3 ?_ | refine S4 ?_ | refine S5 ?_ | refine S6 ?_ | refine S7 ?_ | refine S8 ?_ | refine S10 ?_ | refine S11 ?_ | refine S13 ?_ | refine S15 ?_ | refine S16 ?_ | refine S19 ?_ | refine S20 ?_ | refine S21 ?_ | refine S22 ?_ | refine S23 ?_ | refine S25 ?_ | refine S26 ?_ | refine S28 ?_ | refine S30 ?_ | refine S33 ?_ | refine S34 ?_ | refine S36 ?_ | refine S37 ?_ | refine S40 ?_ | refine S49 ?_ | refine S51 ?_ | refine S52 ?_)
  exact ⟨.inr rfl, .cl rfl⟩
theorem nocross_s {w : List Int} (hl : w.length ≤ 1000) (h : ∀ x ∈ w, 1 ≤ x) : SC Try.prog 41 [pli w, .clo 61 []] (.sc (.bool false)) :=
  containsFunc_x rfl (indexFunc_none (by omega) rfl (fun k hk => by
    have := tperm1_s (w.getD k 0)
    have h1 := h (w.getD k 0) (by rw [getD_lt 0 hk]; exact List.getElem_mem hk)
    rwa [decide_eq_false (by omega)] at this)) rfl
theorem one_of_zero {n : Nat} {f : Nat → Nat} (hf : IsP f n) (h : ivc f n = 0) : isOne n f :=
  inc_id hf (fun i hi hlt => by have := ivc_psw hlt hi; omega)
theorem spw_wd {n : Nat} (hn : n ≤ 6) {f : Nat → Nat} (hf : IsP f n) : Wd n (spw n f) := by
  have hb := spw_br hn hf
  have hl := spw_len hn _ f hf (Nat.le_refl _)
  have hi := ivc_le f n
  have h30 : n * (n - 1) ≤ 6 * 5 := Nat.mul_le_mul hn (by omega)
  exact ⟨hn, by omega, fun k hk => by
    obtain ⟨a, b, c⟩ := hb ((spw n f).getD k 0) (by rw [getD_lt 0 hk]; exact List.getElem_mem hk)
    exact ⟨a, b, c⟩⟩
theorem wd_bF {n : Nat} {w : List Int} (hn : 1 ≤ n) (h : Wd n w) : bF n w = 0 := by
  have := h.n9
  have := h.len
  exact bF_let (by omega) (by omega) h.lt
/-- one factor is right if it is neither the identity nor the half twist -/
theorem gF_one {n : Nat} (hn : 2 ≤ n ∧ n ≤ 6) {f : Nat → Nat} (hf : IsP f n) (h1 : ¬ isOne n f) (h2 : ¬ isTw n f) : gF n [tabN n f] = 0 := by
  unfold gF
  rw [if_neg (by omega), if_neg (by simp)]
  show gFrom n [tabN n f] 1 0 = 0
  have h0 : gAt n [tabN n f] 0 = 0 := by
    unfold gAt
    show (if permFault (tabN n f) ≠ 0 then _ else _) = _
    rw [if_neg (by rw [tab_fault hf (by omega)]; simp), if_neg]
    rintro (h | h | h | ⟨h, _⟩)
    · exact h (tab_len n f)
    · exact h1 (tab_one.1 h)
    · exact h2 (tab_tw.1 h)
    · omega
  rw [gFrom_ok h0]; rfl
set_option maxHeartbeats 32000000 in
set_option maxRecDepth 100000 in
theorem titsW {n : Nat} (hn : 2 ≤ n ∧ n ≤ 6) {f : Nat → Nat} (hf : IsP f n) : ∃ (q : Nat) (pl : PV) (L : Nat), SC Try.prog 56 [pint n, pint q, pl] (.tup [pli (spw n f), pint 0]) ∧ pl.cl = true ∧
    ((isOne n f ∧ q = 0 ∧ L = 0 ∧ pl = .lst true 0 0 []) ∨ (¬ isOne n f ∧ isTw n f ∧ q = 1 ∧ L = 0 ∧ pl = .lst true 0 0 []) ∨ (¬ isOne n f ∧ ¬ isTw n f ∧ q = 0 ∧ L = 1 ∧ pl = .lst true 1 1 [pli (tabN n f)])) := by
  have hl := (spw_wd hn.2 hf).len
  have h0 : gF n [] = 0 := by unfold gF; rw [if_neg (by omega), if_neg (by simp)]; rfl
  by_cases h1 : isOne n f
  · refine ⟨0, .lst true 0 0 [], 0, ?_, rfl, .inl ⟨h1, rfl, rfl, rfl⟩⟩
    have := gWord_pos (N := n) (q := 0) (l := []) (fun r hr => by cases hr) h0 (by omega)
    rw [spw_congr (g := id) h1, spw_id hn.2]
    exact SC.weak this rfl
  · by_cases h2 : isTw n f
    · refine ⟨1, .lst true 0 0 [], 0, ?_, rfl, .inr (.inl ⟨h1, h2, rfl, rfl, rfl⟩)⟩
      have := gWord_pos (N := n) (q := 1) (l := []) (fun r hr => by cases hr) h0 (by omega)
      have e : rp (twN n) 1 ++ ([] : List (List Int)).flatMap spell = spw n f := by
        rw [List.flatMap_nil, List.append_nil, spw_congr h2]; rfl
      rw [e, if_neg (by omega), if_neg (by omega)] at this
      exact SC.weak this rfl
    · refine ⟨0, .lst true 1 1 [pli (tabN n f)], 1, ?_, by simp only [PV.cl, PV.cl.clL, pli_cl, Bool.and_self], .inr (.inr ⟨h1, h2, rfl, rfl, rfl⟩)⟩
      have := gWord_pos (N := n) (q := 0) (l := [tabN n f]) (fun r hr x hx => by
        simp only [List.mem_singleton] at hr
        subst hr
        unfold tabN at hx
        obtain ⟨i, hi, rfl⟩ := List.mem_map.1 hx
        have := hf.lt i (List.mem_range.1 hi)
        unfold in64; omega) (gF_one hn hf h1 h2) (by omega)
      have e : rp (twN n) 0 ++ [tabN n f].flatMap spell = spw n f := by simp [rp, spw]
      rw [e, if_neg (by omega), if_neg (by omega)] at this
      exact SC.weak this rfl
set_option maxHeartbeats 32000000 in
set_option maxRecDepth 100000 in
theorem tits_s (n : Int) (a : List Int) : SC Try.prog 12 [pint n, pli a] (.sc (.bool true)) := by
  have kn := strands_s n 6 (by decide)
  have h1 := Int.emod_nonneg n (show (6 - 1 : Int) ≠ 0 by decide)
  have h2 := Int.emod_lt_of_pos n (show (0 : Int) < 6 - 1 by decide)
  obtain ⟨N, hN⟩ : ∃ N : Nat, 2 + n % (6 - 1) = (N : Int) := ⟨(2 + n % (6 - 1)).toNat, by omega⟩
  rw [hN] at kn
  have hN2 : 2 ≤ N ∧ N ≤ 6 := by omega
  have kp := mperm_s (n := N) (raw := a) hN2.2
  obtain ⟨f, hf, hpe⟩ := prm_isP (raw := a) (n := N)
  rw [hpe] at kp
  have hwd := spw_wd hN2.2 hf
  have hb0 := wd_bF (show 1 ≤ N by omega) hwd
  have kq := permutation_ok (show 1 ≤ N by omega) hwd hb0
  rw [tab_ext (spw_ends hN2.2 _ f hf (Nat.le_refl _))] at kq
  have hsl := spw_len hN2.2 _ f hf (Nat.le_refl _)
  have hpos := spw_pos hN2.2 _ f hf (Nat.le_refl _)
  have hwl := hwd.len
  have kx := nocross_s (w := spw N f) (by omega) (fun x hx => (hpos x hx).1)
  have ke := equalT_s
  have keq := equal_s (tabN N f) (tabN N f)
  rw [decide_eq_true rfl] at keq
  have hform := fun k m G h => spw_form hN2 hf (k := k) (m := m) (G := G) h
  have hle := ivc_le f N
  have h30 : N * (N - 1) ≤ 6 * 5 := Nat.mul_le_mul hN2.2 (by omega)
  have hone : ivc f N = 0 ↔ isOne N f := ⟨one_of_zero hf, ivc_one⟩
  have htop : 2 * ivc f N = N * (N - 1) ↔ isTw N f := ⟨tw_of_top hf, fun h => ivc_hlf h N (Nat.le_refl _)⟩
  obtain ⟨q, pl, L, kw, hpc, hcase⟩ := titsW hN2 hf
  have hpl := tab_len N f
  have kform := fun h => nform_ok hwd hb0 h
  refine SC.go {} tok mixed Try.func12 rfl rfl Try.ntmps12 rfl rfl (by kernel_rfl) ?_
  first | simp only [updS] | simp only [updL, Nat.reduceAdd]
  repeat (first | refine S0 ?_ | refine S1 ?_ | refine S2 ?_ | refine S3 ?_ | refine S4 ?_ | refine S5 ?_ | refine S6 ?_ | refine S7 ?_ | refine S8 ?_ | refine S10 ?_ | refine S11 ?_ | refine S13 ?_ | refine S15 ?_ | refine S16 ?_ | refine S19 ?_ | refine S20 ?_ | refine S21 ?_ | refine S22 ?_ | refine S23 ?_ | refine S25 ?_ | refine S26 ?_ | refine S28 ?_ | refine S30 ?_ | refine S33 ?_ | refine S34 ?_ | refine S36 ?_ | refine S37 ?_ | refine S40 ?_ | refine S49 ?_ | refine S51 ?_ | refine S52 ?_)
  refine Scall (args := [pint n, pint 6]) kn ?_
  repeat (first | refine S0 ?_ | refine S1 ?_ | refine S2 ?_ | refine S3 ?_ | refine S4 ?_ | refine S5 ?_ | refine S6 ?_ | refine S7 ?_ | refine S8 ?_ | refine S10 ?_ | refine S11 ?_ | refine S13 ?_ | refine S15 ?_ | refine S16 ?_ | refine S19 ?_ | refine S20 ?_ | refine S21 ?_ | refine S22 ?_ | refine S23 ?_ | refine S25 ?_ | refine S26 ?_ | refine S28 ?_ | refine S30 ?_ | refine S33 ?_ | refine S34 ?_ | refine S36 ?_ | refine S37 ?_ | refine S40 ?_ | refine S49 ?_ | refine S51 ?_ | refine S52 ?_)
  refine Scall (args := [pint N, pli a]) kp ?_
  repeat (first | refine S0 ?_ | refine S1 ?_ | refine S2 ?_ | refine S3 ?_ | refine S4 ?_ | refine S5 ?_ | refine S6 ?_ | refine S7 ?_ | refine S8 ?_ | refine S10 ?_ | refine S11 ?_ | refine S13 ?_ | refine S15 ?_ | refine S16 ?_ | refine S19 ?_ | refine S20 ?_ | refine S21 ?_ | refine S22 ?_ | refine S23 ?_ | refine S25 ?_ | refine S26 ?_ | refine S28 ?_ | refine S30 ?_ | refine S33 ?_ | refine S34 ?_ | refine S36 ?_ | refine S37 ?_ | refine S40 ?_ | refine S49 ?_ | refine S51 ?_ | refine S52 ?_)
  rw [hpl]
  refine CW.loopS (fun i : Nat => i ≤ N) (fun i => [(0, pint N), (5, pli (tabN N f)), (6, pint (ivc f i)), (24, pint N), (25, pint i)]) (fun _ _ => True) (fun i => N - i) 0 ⟨Nat.zero_le _, SLx, trivial⟩ ?_
  rintro i t hp hi _
  first | simp only [updS] | simp only [updL, Nat.reduceAdd]
  have hii := ivc_le f i
  have hi30 : i * (i - 1) ≤ 6 * 5 := Nat.mul_le_mul (by omega) (by omega)
  by_cases hiN : i < N
  · repeat (first | refine S0 ?_ | refine S1 ?_ | refine S2 ?_ | refine S3 ?_ | refine S4 ?_ | refine S5 ?_ | refine S6 ?_ | refine S7 ?_ | refine S8 ?_ | refine S10 ?_ | refine S11 ?_ | refine S13 ?_ | refine S15 ?_ | refine S16 ?_ | refine S19 ?_ | refine S20 ?_ | refine S21 ?_ | refine S22 ?_ | refine S23 ?_ | refine S25 ?_ | refine S26 ?_ | refine S28 ?_ | refine S30 ?_ | refine S33 ?_ | refine S34 ?_ | refine S36 ?_ | refine S37 ?_ | refine S40 ?_ | refine S49 ?_ | refine S51 ?_ | refine S52 ?_)
    refine CW.loopS (fun k : Nat => k ≤ i) (fun k => [(0, pint N), (5, pli (tabN N f)), (6, pint (ivc f i + cnt (fun j => decide (f i < f j)) k : Nat)), (7, pint i), (24, pint N), (25, pint i), (28, pint i), (29, pint k)]) (fun _ _ => True) (fun k => i - k) 0 ⟨Nat.zero_le _, SLx, trivial⟩ ?_
    clear hp t
    rintro k t hp hk _
    first | simp only [updS] | simp only [updL, Nat.reduceAdd]
    have hck := cnt_le (fun j => decide (f i < f j)) k
    by_cases hki : k < i
    · have g1 : (tabN N f).getD k 0 = (f k : Int) := tab_getI (by omega)
      have g2 : (tabN N f).getD i 0 = (f i : Int) := tab_getI hiN
      by_cases hfk : f i < f k
      · have hc : cnt (fun j => decide (f i < f j)) (k + 1) = cnt (fun j => decide (f i < f j)) k + 1 := by simp [cnt, hfk]
        repeat (first | refine S0 ?_ | refine S1 ?_ | refine S2 ?_ | refine S3 ?_ | refine S4 ?_ | refine S5 ?_ | refine S6 ?_ | refine S7 ?_ | refine S8 ?_ | refine S10 ?_ | refine S11 ?_ | refine S13 ?_ | refine S15 ?_ | refine S16 ?_ | refine S19 ?_ | refine S20 ?_ | refine S21 ?_ | refine S22 ?_ | refine S23 ?_ | refine S25 ?_ | refine S26 ?_ | refine S28 ?_ | refine S30 ?_ | refine S33 ?_ | refine S34 ?_ | refine S36 ?_ | refine S37 ?_ | refine S40 ?_ | refine S49 ?_ | refine S51 ?_ | refine S52 ?_)
        refine ⟨k + 1, hki, ?_, trivial, by omega⟩
        rw [hc, ← Nat.add_assoc]
        exact SLx
      · have hc : cnt (fun j => decide (f i < f j)) (k + 1) = cnt (fun j => decide (f i < f j)) k := by simp [cnt, hfk]
        repeat (first | refine S0 ?_ | refine S1 ?_ | refine S2 ?_ | refine S3 ?_ | refine S4 ?_ | refine S5 ?_ | refine S6 ?_ | refine S7 ?_ | refine S8 ?_ | refine S10 ?_ | refine S11 ?_ | refine S13 ?_ | refine S15 ?_ | refine S16 ?_ | refine S19 ?_ | refine S20 ?_ | refine S21 ?_ | refine S22 ?_ | refine S23 ?_ | refine S25 ?_ | refine S26 ?_ | refine S28 ?_ | refine S30 ?_ | refine S33 ?_ | refine S34 ?_ | refine S36 ?_ | refine S37 ?_ | refine S40 ?_ | refine S49 ?_ | refine S51 ?_ | refine S52 ?_)
        refine ⟨k + 1, hki, ?_, trivial, by omega⟩
        rw [hc]
        exact SLx
    · obtain rfl : k = i := by omega
      repeat (first | refine S0 ?_ | refine S1 ?_ | refine S2 ?_ | refine S3 ?_ | refine S4 ?_ | refine S5 ?_ | refine S6 ?_ | refine S7 ?_ | refine S8 ?_ | refine S10 ?_ | refine S11 ?_ | refine S13 ?_ | refine S15 ?_ | refine S16 ?_ | refine S19 ?_ | refine S20 ?_ | refine S21 ?_ | refine S22 ?_ | refine S23 ?_ | refine S25 ?_ | refine S26 ?_ | refine S28 ?_ | refine S30 ?_ | refine S33 ?_ | refine S34 ?_ | refine S36 ?_ | refine S37 ?_ | refine S40 ?_ | refine S49 ?_ | refine S51 ?_ | refine S52 ?_)
      exact ⟨k + 1, hiN, SLx, trivial, by omega⟩
  · obtain rfl : i = N := by omega
    obtain ⟨X, hX⟩ : ∃ X, X = i * (i - 1) := ⟨_, rfl⟩
    have hXI : (i : Int) * ((i : Int) - 1) = (X : Int) := by rw [hX, Int.natCast_mul, Int.natCast_sub (by omega)]; rfl
    obtain ⟨c, hc⟩ : ∃ c, X = 2 * c := by
      rcases le6 hN2 with rfl | rfl | rfl | rfl | rfl
      · exact ⟨1, hX⟩
      · exact ⟨3, hX⟩
      · exact ⟨6, hX⟩
      · exact ⟨10, hX⟩
      · exact ⟨15, hX⟩
    rw [← hX] at htop h30
    have hmin : -100 ≤ (i : Int) * ((i : Int) - 1) ∧ (i : Int) * ((i : Int) - 1) ≤ 100 := by rw [hXI]; omega
    have hcp : 0 < c := by
      have : 2 * 1 ≤ i * (i - 1) := Nat.mul_le_mul hN2.1 (by omega)
      omega
    repeat (first | refine S0 ?_ | refine S1 ?_ | refine S2 ?_ | refine S3 ?_ | refine S4 ?_ | refine S5 ?_ | refine S6 ?_ | refine S7 ?_ | refine S8 ?_ | refine S10 ?_ | refine S11 ?_ | refine S13 ?_ | refine S15 ?_ | refine S16 ?_ | refine S19 ?_ | refine S20 ?_ | refine S21 ?_ | refine S22 ?_ | refine S23 ?_ | refine S25 ?_ | refine S26 ?_ | refine S28 ?_ | refine S30 ?_ | refine S33 ?_ | refine S34 ?_ | refine S36 ?_ | refine S37 ?_ | refine S40 ?_ | refine S49 ?_ | refine S51 ?_ | refine S52 ?_)
    refine CW.midB (fun _ : Unit => True) (fun _ => [(0, pint i), (5, pli (tabN i f)), (6, pint (ivc f i)), (9, pint q), (10, pl)]) (fun _ _ => True) ?_ ?_
    · rcases hcase with ⟨c1, rfl, rfl, rfl⟩ | ⟨c1, c2, rfl, rfl, rfl⟩ | ⟨c1, c2, rfl, rfl, rfl⟩
      · have c3 := hone.2 c1
        repeat (first | refine S0 ?_ | refine S1 ?_ | refine S2 ?_ | refine S3 ?_ | refine S4 ?_ | refine S5 ?_ | refine S6 ?_ | refine S7 ?_ | refine S8 ?_ | refine S10 ?_ | refine S11 ?_ | refine S13 ?_ | refine S15 ?_ | refine S16 ?_ | refine S19 ?_ | refine S20 ?_ | refine S21 ?_ | refine S22 ?_ | refine S23 ?_ | refine S25 ?_ | refine S26 ?_ | refine S28 ?_ | refine S30 ?_ | refine S33 ?_ | refine S34 ?_ | refine S36 ?_ | refine S37 ?_ | refine S40 ?_ | refine S49 ?_ | refine S51 ?_ | refine S52 ?_)
        exact ⟨(), trivial, SLx, trivial⟩
      · have c3 : ivc f i ≠ 0 := fun e => c1 (hone.1 e)
        have c4 := htop.2 c2
        repeat (first | refine S0 ?_ | refine S1 ?_ | refine S2 ?_ | refine S3 ?_ | refine S4 ?_ | refine S5 ?_ | refine S6 ?_ | refine S7 ?_ | refine S8 ?_ | refine S10 ?_ | refine S11 ?_ | refine S13 ?_ | refine S15 ?_ | refine S16 ?_ | refine S19 ?_ | refine S20 ?_ | refine S21 ?_ | refine S22 ?_ | refine S23 ?_ | refine S25 ?_ | refine S26 ?_ | refine S28 ?_ | refine S30 ?_ | refine S33 ?_ | refine S34 ?_ | refine S36 ?_ | refine S37 ?_ | refine S40 ?_ | refine S49 ?_ | refine S51 ?_ | refine S52 ?_)
        exact ⟨(), trivial, SLx, trivial⟩
      · have c3 : ivc f i ≠ 0 := fun e => c1 (hone.1 e)
        have c4 : 2 * ivc f i ≠ X := fun e => c2 (htop.1 e)
        repeat (first | refine S0 ?_ | refine S1 ?_ | refine S2 ?_ | refine S3 ?_ | refine S4 ?_ | refine S5 ?_ | refine S6 ?_ | refine S7 ?_ | refine S8 ?_ | refine S10 ?_ | refine S11 ?_ | refine S13 ?_ | refine S15 ?_ | refine S16 ?_ | refine S19 ?_ | refine S20 ?_ | refine S21 ?_ | refine S22 ?_ | refine S23 ?_ | refine S25 ?_ | refine S26 ?_ | refine S28 ?_ | refine S30 ?_ | refine S33 ?_ | refine S34 ?_ | refine S36 ?_ | refine S37 ?_ | refine S40 ?_ | refine S49 ?_ | refine S51 ?_ | refine S52 ?_)
        exact ⟨(), trivial, SLx, trivial⟩
    clear hp t
    rintro _ t hp _ _
    first | simp only [updS] | simp only [updL, Nat.reduceAdd]
    repeat (first | refine S0 ?_ | refine S1 ?_ | refine S2 ?_ | refine S3 ?_ | refine S4 ?_ | refine S5 ?_ | refine S6 ?_ | refine S7 ?_ | refine S8 ?_ | refine S10 ?_ | refine S11 ?_ | refine S13 ?_ | refine S15 ?_ | refine S16 ?_ | refine S19 ?_ | refine S20 ?_ | refine S21 ?_ | refine S22 ?_ | refine S23 ?_ | refine S25 ?_ | refine S26 ?_ | refine S28 ?_ | refine S30 ?_ | refine S33 ?_ | refine S34 ?_ | refine S36 ?_ | refine S37 ?_ | refine S40 ?_ | refine S49 ?_ | refine S51 ?_ | refine S52 ?_)
    refine Scall (args := [pint i, pint q, pl]) kw ?_ (hc := by simp only [PV.cl.clL, pint_cl, hpc, Bool.and_self])
    repeat (first | refine S0 ?_ | refine S1 ?_ | refine S2 ?_ | refine S3 ?_ | refine S4 ?_ | refine S5 ?_ | refine S6 ?_ | refine S7 ?_ | refine S8 ?_ | refine S10 ?_ | refine S11 ?_ | refine S13 ?_ | refine S15 ?_ | refine S16 ?_ | refine S19 ?_ | refine S20 ?_ | refine S21 ?_ | refine S22 ?_ | refine S23 ?_ | refine S25 ?_ | refine S26 ?_ | refine S28 ?_ | refine S30 ?_ | refine S33 ?_ | refine S34 ?_ | refine S36 ?_ | refine S37 ?_ | refine S40 ?_ | refine S49 ?_ | refine S51 ?_ | refine S52 ?_)
    refine Scall (args := [pint i, pli (spw i f)]) kq ?_
    repeat (first | refine S0 ?_ | refine S1 ?_ | refine S2 ?_ | refine S3 ?_ | refine S4 ?_ | refine S5 ?_ | refine S6 ?_ | refine S7 ?_ | refine S8 ?_ | refine S10 ?_ | refine S11 ?_ | refine S13 ?_ | refine S15 ?_ | refine S16 ?_ | refine S19 ?_ | refine S20 ?_ | refine S21 ?_ | refine S22 ?_ | refine S23 ?_ | refine S25 ?_ | refine S26 ?_ | refine S28 ?_ | refine S30 ?_ | refine S33 ?_ | refine S34 ?_ | refine S36 ?_ | refine S37 ?_ | refine S40 ?_ | refine S49 ?_ | refine S51 ?_ | refine S52 ?_)
    refine Scalle (args := [pint i, pli (spw i f)]) (kform hp) ?_
    rintro r h' ⟨k, m, G, hS, rfl⟩
    obtain ⟨f1, f2, f3⟩ := hform k m G hS
    have hfl := fcs_len i m G
    unfold ptts
    rw [hfl]
    generalize (fcs i m G).map pli = cs at *
    rcases hcase with ⟨c1, rfl, rfl, rfl⟩ | ⟨c1, c2, rfl, rfl, rfl⟩ | ⟨c1, c2, rfl, rfl, rfl⟩
    · obtain ⟨rfl, rfl⟩ := f1 c1
      repeat (first | refine S0 ?_ | refine S1 ?_ | refine S2 ?_ | refine S3 ?_ | refine S4 ?_ | refine S5 ?_ | refine S6 ?_ | refine S7 ?_ | refine S8 ?_ | refine S10 ?_ | refine S11 ?_ | refine S13 ?_ | refine S15 ?_ | refine S16 ?_ | refine S19 ?_ | refine S20 ?_ | refine S21 ?_ | refine S22 ?_ | refine S23 ?_ | refine S25 ?_ | refine S26 ?_ | refine S28 ?_ | refine S30 ?_ | refine S33 ?_ | refine S34 ?_ | refine S36 ?_ | refine S37 ?_ | refine S40 ?_ | refine S49 ?_ | refine S51 ?_ | refine S52 ?_)
      refine Scall (args := []) ke ?_
      repeat (first | refine S0 ?_ | refine S1 ?_ | refine S2 ?_ | refine S3 ?_ | refine S4 ?_ | refine S5 ?_ | refine S6 ?_ | refine S7 ?_ | refine S8 ?_ | refine S10 ?_ | refine S11 ?_ | refine S13 ?_ | refine S15 ?_ | refine S16 ?_ | refine S19 ?_ | refine S20 ?_ | refine S21 ?_ | refine S22 ?_ | refine S23 ?_ | refine S25 ?_ | refine S26 ?_ | refine S28 ?_ | refine S30 ?_ | refine S33 ?_ | refine S34 ?_ | refine S36 ?_ | refine S37 ?_ | refine S40 ?_ | refine S49 ?_ | refine S51 ?_ | refine S52 ?_)
      refine Scall (args := [pli (spw i f), .clo 61 []]) kx ?_
      repeat (first | refine S0 ?_ | refine S1 ?_ | refine S2 ?_ | refine S3 ?_ | refine S4 ?_ | refine S5 ?_ | refine S6 ?_ | refine S7 ?_ | refine S8 ?_ | refine S10 ?_ | refine S11 ?_ | refine S13 ?_ | refine S15 ?_ | refine S16 ?_ | refine S19 ?_ | refine S20 ?_ | refine S21 ?_ | refine S22 ?_ | refine S23 ?_ | refine S25 ?_ | refine S26 ?_ | refine S28 ?_ | refine S30 ?_ | refine S33 ?_ | refine S34 ?_ | refine S36 ?_ | refine S37 ?_ | refine S40 ?_ | refine S49 ?_ | refine S51 ?_ | refine S52 ?_)
      refine Scall (args := [pli (tabN i f), pli (tabN i f)]) keq ?_
      repeat (first | refine S0 ?_ | refine S1 ?_ | refine S2 ?_ | refine S3 ?_ | refine S4 ?_ | refine S5 ?_ | refine S6 ?_ | refine S7 ?_ | refine S8 ?_ | refine S10 ?_ | refine S11 ?_ | refine S13 ?_ | refine S15 ?_ | refine S16 ?_ | refine S19 ?_ | refine S20 ?_ | refine S21 ?_ | refine S22 ?_ | refine S23 ?_ | refine S25 ?_ | refine S26 ?_ | refine S28 ?_ | refine S30 ?_ | refine S33 ?_ | refine S34 ?_ | refine S36 ?_ | refine S37 ?_ | refine S40 ?_ | refine S49 ?_ | refine S51 ?_ | refine S52 ?_)
      exact ⟨.inr rfl, .cl rfl⟩
    · obtain ⟨rfl, rfl⟩ := f2 c2
      repeat (first | refine S0 ?_ | refine S1 ?_ | refine S2 ?_ | refine S3 ?_ | refine S4 ?_ | refine S5 ?_ | refine S6 ?_ | refine S7 ?_ | refine S8 ?_ | refine S10 ?_ | refine S11 ?_ | refine S13 ?_ | refine S15 ?_ | refine S16 ?_ | refine S19 ?_ | refine S20 ?_ | refine S21 ?_ | refine S22 ?_ | refine S23 ?_ | refine S25 ?_ | refine S26 ?_ | refine S28 ?_ | refine S30 ?_ | refine S33 ?_ | refine S34 ?_ | refine S36 ?_ | refine S37 ?_ | refine S40 ?_ | refine S49 ?_ | refine S51 ?_ | refine S52 ?_)
      refine Scall (args := []) ke ?_
      repeat (first | refine S0 ?_ | refine S1 ?_ | refine S2 ?_ | refine S3 ?_ | refine S4 ?_ | refine S5 ?_ | refine S6 ?_ | refine S7 ?_ | refine S8 ?_ | refine S10 ?_ | refine S11 ?_ | refine S13 ?_ | refine S15 ?_ | refine S16 ?_ | refine S19 ?_ | refine S20 ?_ | refine S21 ?_ | refine S22 ?_ | refine S23 ?_ | refine S25 ?_ | refine S26 ?_ | refine S28 ?_ | refine S30 ?_ | refine S33 ?_ | refine S34 ?_ | refine S36 ?_ | refine S37 ?_ | refine S40 ?_ | refine S49 ?_ | refine S51 ?_ | refine S52 ?_)
      refine Scall (args := [pli (spw i f), .clo 61 []]) kx ?_
      repeat (first | refine S0 ?_ | refine S1 ?_ | refine S2 ?_ | refine S3 ?_ | refine S4 ?_ | refine S5 ?_ | refine S6 ?_ | refine S7 ?_ | refine S8 ?_ | refine S10 ?_ | refine S11 ?_ | refine S13 ?_ | refine S15 ?_ | refine S16 ?_ | refine S19 ?_ | refine S20 ?_ | refine S21 ?_ | refine S22 ?_ | refine S23 ?_ | refine S25 ?_ | refine S26 ?_ | refine S28 ?_ | refine S30 ?_ | refine S33 ?_ | refine S34 ?_ | refine S36 ?_ | refine S37 ?_ | refine S40 ?_ | refine S49 ?_ | refine S51 ?_ | refine S52 ?_)
      refine Scall (args := [pli (tabN i f), pli (tabN i f)]) keq ?_
      repeat (first | refine S0 ?_ | refine S1 ?_ | refine S2 ?_ | refine S3 ?_ | refine S4 ?_ | refine S5 ?_ | refine S6 ?_ | refine S7 ?_ | refine S8 ?_ | refine S10 ?_ | refine S11 ?_ | refine S13 ?_ | refine S15 ?_ | refine S16 ?_ | refine S19 ?_ | refine S20 ?_ | refine S21 ?_ | refine S22 ?_ | refine S23 ?_ | refine S25 ?_ | refine S26 ?_ | refine S28 ?_ | refine S30 ?_ | refine S33 ?_ | refine S34 ?_ | refine S36 ?_ | refine S37 ?_ | refine S40 ?_ | refine S49 ?_ | refine S51 ?_ | refine S52 ?_)
      exact ⟨.inr rfl, .cl rfl⟩
    · obtain ⟨rfl, rfl⟩ := f3 c1 c2
      repeat (first | refine S0 ?_ | refine S1 ?_ | refine S2 ?_ | refine S3 ?_ | refine S4 ?_ | refine S5 ?_ | refine S6 ?_ | refine S7 ?_ | refine S8 ?_ | refine S10 ?_ | refine S11 ?_ | refine S13 ?_ | refine S15 ?_ | refine S16 ?_ | refine S19 ?_ | refine S20 ?_ | refine S21 ?_ | refine S22 ?_ | refine S23 ?_ | refine S25 ?_ | refine S26 ?_ | refine S28 ?_ | refine S30 ?_ | refine S33 ?_ | refine S34 ?_ | refine S36 ?_ | refine S37 ?_ | refine S40 ?_ | refine S49 ?_ | refine S51 ?_ | refine S52 ?_)
      refine Scall (args := []) ke ?_
      repeat (first | refine S0 ?_ | refine S1 ?_ | refine S2 ?_ | refine S3 ?_ | refine S4 ?_ | refine S5 ?_ | refine S6 ?_ | refine S7 ?_ | refine S8 ?_ | refine S10 ?_ | refine S11 ?_ | refine S13 ?_ | refine S15 ?_ | refine S16 ?_ | refine S19 ?_ | refine S20 ?_ | refine S21 ?_ | refine S22 ?_ | refine S23 ?_ | refine S25 ?_ | refine S26 ?_ | refine S28 ?_ | refine S30 ?_ | refine S33 ?_ | refine S34 ?_ | refine S36 ?_ | refine S37 ?_ | refine S40 ?_ | refine S49 ?_ | refine S51 ?_ | refine S52 ?_)
      refine Scall (args := [pli (spw i f), .clo 61 []]) kx ?_
      repeat (first | refine S0 ?_ | refine S1 ?_ | refine S2 ?_ | refine S3 ?_ | refine S4 ?_ | refine S5 ?_ | refine S6 ?_ | refine S7 ?_ | refine S8 ?_ | refine S10 ?_ | refine S11 ?_ | refine S13 ?_ | refine S15 ?_ | refine S16 ?_ | refine S19 ?_ | refine S20 ?_ | refine S21 ?_ | refine S22 ?_ | refine S23 ?_ | refine S25 ?_ | refine S26 ?_ | refine S28 ?_ | refine S30 ?_ | refine S33 ?_ | refine S34 ?_ | refine S36 ?_ | refine S37 ?_ | refine S40 ?_ | refine S49 ?_ | refine S51 ?_ | refine S52 ?_)
      refine Scall (args := [pli (tabN i f), pli (tabN i f)]) keq ?_
      repeat (first | refine S0 ?_ | refine S1 ?_ | refine S2 ?_ | refine S3 ?_ | refine S4 ?_ | refine S5 ?_ | refine S6 ?_ | refine S7 ?_ | refine S8 ?_ | refine S10 ?_ | refine S11 ?_ | refine S13 ?_ | refine S15 ?_ | refine S16 ?_ | refine S19 ?_ | refine S20 ?_ | refine S21 ?_ | refine S22 ?_ | refine S23 ?_ | refine S25 ?_ | refine S26 ?_ | refine S28 ?_ | refine S30 ?_ | refine S33 ?_ | refine S34 ?_ | refine S36 ?_ | refine S37 ?_ | refine S40 ?_ | refine S49 ?_ | refine S51 ?_ | refine S52 ?_)
      exact ⟨.inr rfl, .cl rfl⟩
end Go.Proofs.Ytgjfpmjllpgadaa
