/- Facts and contracts that the claim uses. No condition of its own. -/
import Derived.Test.YtkmkcbkfakoomaaDoorGRingTextsBS
import Derived.Test.YtkmkcbkfakoomaaDoorGRingTextsBT
set_option linter.unusedVariables false
set_option linter.unusedSimpArgs false
namespace Go.Proofs.YtkmkcbkfakoomaaDoor
open Go.RowKit
set_option maxHeartbeats 4000000 in
set_option maxRecDepth 100000 in
theorem rung_s : SC Tryd.prog 9 [] (.sc (.bool true)) := by
  have kp := parse_s 4 [120, 49, 52]
  rw [show psE 4 [120, 49, 52] = 0 by decide +kernel, show psL 4 [120, 49, 52] = [5, 2] by decide +kernel] at kp
  have ke := equal_s [5, 2] [5, 2]
  rw [decide_eq_true rfl] at ke
  refine SC.go {} tok mixed Tryd.func9 rfl rfl Tryd.ntmps9 rfl rfl (by kernel_rfl) ?_
  first | simp only [updS] | simp only [updL, Nat.reduceAdd]
  repeat (first | refine S0 ?_ | refine S1 ?_ | refine S2 ?_ | refine S7 ?_ | refine S8 ?_ | refine S19 ?_ | refine S20 ?_ | refine S28 ?_ | refine S34 ?_ | refine S37 ?_ | refine S40 ?_ | refine S49 ?_)
  refine Scall (args := [pint 4, pstr [120, 49, 52]]) kp ?_
  repeat (first | refine S0 ?_ | refine S1 ?_ | refine S2 ?_ | refine S7 ?_ | refine S8 ?_ | refine S19 ?_ | refine S20 ?_ | refine S28 ?_ | refine S34 ?_ | refine S37 ?_ | refine S40 ?_ | refine S49 ?_)
  refine Scall (args := [pli [5, 2], .lst true 1 2 [pint 5, pint 2]]) (SC.weak ke rfl) ?_
  repeat (first | refine S0 ?_ | refine S1 ?_ | refine S2 ?_ | refine S7 ?_ | refine S8 ?_ | refine S19 ?_ | refine S20 ?_ | refine S28 ?_ | refine S34 ?_ | refine S37 ?_ | refine S40 ?_ | refine S49 ?_)
  exact ⟨.inr rfl, .cl rfl⟩
theorem chgL_bd : ∀ n : Fin 8, ∀ c ∈ chgL n.val, 0 ≤ c ∧ c < 64 ∧ c.toNat < 2 ^ n.val := by decide +kernel
theorem chgL_bd2 : ∀ n : Fin 6, ∀ c ∈ chgL n.val, c.toNat < 2 ^ n.val ∧ 0 ≤ c := by decide +kernel
theorem chgL_len : ∀ n : Fin 8, (chgL n.val).length ≤ 100 := by decide +kernel
theorem bshl_z {y : Int} (r : Nat) (hy : y = r) (hr : r ≤ 60) (t : TypeId) (p q : Operand) (w : World) : (do eqGuard .shl t p q (.int .i64 1) (.int .i64 y); binOp .shl t (.int .i64 1) (.int .i64 y) : Sem Value).run Tryd.prog w = .ok (.int .i64 ((2 ^ r : Nat) : Int)) w := by
  subst hy; exact bin_shl r hr t p q w
set_option maxHeartbeats 4000000 in
set_option maxRecDepth 100000 in
theorem changes_o : ∀ (n : Nat), n ≤ 7 → SCo Tryd.prog 15 [pint n] 1 (chgL n).length (ints (chgL n))
  | 0, _ => by
    refine SCo.go { mt := [8] } tok mixed Tryd.func15 rfl rfl Tryd.ntmps15 rfl rfl (by kernel_rfl) ?_
    first | simp only [updS] | simp only [updL, Nat.reduceAdd]
    repeat (first | refine S0 ?_ | refine S1 ?_ | refine S2 ?_ | refine S4 ?_ | refine S5 ?_ | refine S6 ?_ | refine S7 ?_ | refine S8 ?_ | refine S9 ?_ | refine S10 ?_ | refine S11 ?_ | refine S13 ?_ | refine S15 ?_ | refine S16 ?_ | refine S19 ?_ | refine S20 ?_ | refine S21 ?_ | refine S22 ?_ | refine S23 ?_ | refine S25 ?_ | refine S26 ?_ | refine S33 ?_ | refine S49 ?_ | refine S50 ?_ | refine S63 ?_)
    exact ⟨.inr rfl, Ow.ints (zs := [0]) (ys := [0]) HBx rfl rfl⟩
  | 1, _ => by
    refine SCo.go { mt := [8] } tok mixed Tryd.func15 rfl rfl Tryd.ntmps15 rfl rfl (by kernel_rfl) ?_
    first | simp only [updS] | simp only [updL, Nat.reduceAdd]
    repeat (first | refine S0 ?_ | refine S1 ?_ | refine S2 ?_ | refine S4 ?_ | refine S5 ?_ | refine S6 ?_ | refine S7 ?_ | refine S8 ?_ | refine S9 ?_ | refine S10 ?_ | refine S11 ?_ | refine S13 ?_ | refine S15 ?_ | refine S16 ?_ | refine S19 ?_ | refine S20 ?_ | refine S21 ?_ | refine S22 ?_ | refine S23 ?_ | refine S25 ?_ | refine S26 ?_ | refine S33 ?_ | refine S49 ?_ | refine S50 ?_ | refine S63 ?_)
    exact ⟨.inr rfl, Ow.ints (zs := [0]) (ys := [0]) HBx rfl rfl⟩
  | n + 2, hn => by
    have k1 := changes_o (n + 1) (by omega)
    have k2 : SC Tryd.prog 15 [pint n] (pli (chgL n)) := (changes_o n (by omega)).sc (by simp)
    have hb := chgL_bd2 ⟨n, by omega⟩
    have hl1 := chgL_len ⟨n, by omega⟩
    have hl2 := chgL_len ⟨n + 1, by omega⟩
    simp only at hb hl1 hl2
    refine SCo.go { mt := [8] } tok mixed Tryd.func15 rfl rfl Tryd.ntmps15 rfl rfl (by kernel_rfl) ?_
    first | simp only [updS] | simp only [updL, Nat.reduceAdd]
    repeat (first | refine S0 ?_ | refine S1 ?_ | refine S2 ?_ | refine S4 ?_ | refine S5 ?_ | refine S6 ?_ | refine S7 ?_ | refine S8 ?_ | refine S9 ?_ | refine S10 ?_ | refine S11 ?_ | refine S13 ?_ | refine S15 ?_ | refine S16 ?_ | refine S19 ?_ | refine S20 ?_ | refine S21 ?_ | refine S22 ?_ | refine S23 ?_ | refine S25 ?_ | refine S26 ?_ | refine S33 ?_ | refine S49 ?_ | refine S50 ?_ | refine S63 ?_)
    rw [show ((n + 2 : Nat) : Int) - 1 = ((n + 1 : Nat) : Int) by omega]
    refine Scallo (args := [pint (n + 1 : Nat)]) k1 ?_
    repeat (first | refine S0 ?_ | refine S1 ?_ | refine S2 ?_ | refine S4 ?_ | refine S5 ?_ | refine S6 ?_ | refine S7 ?_ | refine S8 ?_ | refine S9 ?_ | refine S10 ?_ | refine S11 ?_ | refine S13 ?_ | refine S15 ?_ | refine S16 ?_ | refine S19 ?_ | refine S20 ?_ | refine S21 ?_ | refine S22 ?_ | refine S23 ?_ | refine S25 ?_ | refine S26 ?_ | refine S33 ?_ | refine S49 ?_ | refine S50 ?_ | refine S63 ?_)
    rw [show ((n + 2 : Nat) : Int) - 2 = (n : Int) by omega]
    refine Scall (args := [pint n]) k2 ?_
    repeat (first | refine S0 ?_ | refine S1 ?_ | refine S2 ?_ | refine S4 ?_ | refine S5 ?_ | refine S6 ?_ | refine S7 ?_ | refine S8 ?_ | refine S9 ?_ | refine S10 ?_ | refine S11 ?_ | refine S13 ?_ | refine S15 ?_ | refine S16 ?_ | refine S19 ?_ | refine S20 ?_ | refine S21 ?_ | refine S22 ?_ | refine S23 ?_ | refine S25 ?_ | refine S26 ?_ | refine S33 ?_ | refine S49 ?_ | refine S50 ?_ | refine S63 ?_)
    obtain ⟨L, hL⟩ : ∃ L, L = chgL n := ⟨_, rfl⟩
    obtain ⟨M, hM⟩ : ∃ M, M = chgL (n + 1) := ⟨_, rfl⟩
    have hR : chgL (n + 2) = M ++ L.map (fun c : Int => c + ((2 ^ n : Nat) : Int)) := by rw [hL, hM]; rfl
    rw [hR]
    rw [← hL] at hb hl1 ⊢
    rw [← hM] at hl2 ⊢
    obtain ⟨F, hF⟩ : ∃ F : Nat → List Int, F = fun k => M ++ (L.take k).map (fun c : Int => c + ((2 ^ n : Nat) : Int)) := ⟨_, rfl⟩
    have hF0 : M = F 0 := by rw [hF]; simp
    have hFl : M ++ L.map (fun c : Int => c + ((2 ^ n : Nat) : Int)) = F L.length := by rw [hF]; simp
    rw [hFl]
    have hlF : ∀ k, (F k).length ≤ 300 := fun k => by rw [hF]; simp; omega
    rw [hF0]
    refine CW.loopS (fun i : Nat × Nat => i.1 ≤ L.length ∧ i.2 % 2 = 0) (fun i => [(0, pint (n + 2 : Nat)), (3, .ref i.2 0 1 (F i.1).length), (14, pli L), (15, pint L.length), (16, pint i.1)])
      (fun i h => h.blk i.2 = some (ints (F i.1)) ∧ i.2 < 2 * h.next) (fun i => L.length - i.1) (0, 0) ⟨⟨Nat.zero_le _, rfl⟩, SLx, HBx, (by first | omega | (simp only [HP.tokF, HP.tokT, HP.next_add, HP.next_set, HP.next_kill, HP.next_H0, HP.next_addS, HP.next_setS, HP.next_killS, HP.next_put, HP.next_bump, HP.next_putS]; omega))⟩ ?_
    rintro ⟨k, T⟩ t hp ⟨hk, hT2⟩ ⟨hB, hTl⟩
    simp only at hk hT2 hB hTl
    first | simp only [updS] | simp only [updL, Nat.reduceAdd]
    by_cases hk2 : k < L.length
    · obtain ⟨g1, g2⟩ := hb (L.getD k 0) (by rw [getD_lt 0 hk2]; exact List.getElem_mem hk2)
      have hts : F (k + 1) = F k ++ [L.getD k 0 + ((2 ^ n : Nat) : Int)] := by
        rw [hF]
        simp only
        rw [List.take_succ_eq_append_getElem hk2, List.map_append, getD_lt 0 hk2, ← List.append_assoc]; rfl
      obtain ⟨o, ho⟩ : ∃ o : Nat, L.getD k 0 = o := ⟨(L.getD k 0).toNat, by omega⟩
      rw [ho, Int.toNat_natCast] at g1
      rw [ho, show ((o : Nat) : Int) + ((2 ^ n : Nat) : Int) = ((o + 2 ^ n : Nat) : Int) by omega] at hts
      have hlk := hlF k
      repeat (first | refine S0 ?_ | refine S1 ?_ | refine S2 ?_ | refine S4 ?_ | refine S5 ?_ | refine S6 ?_ | refine S7 ?_ | refine S8 ?_ | refine S9 ?_ | refine S10 ?_ | refine S11 ?_ | refine S13 ?_ | refine S15 ?_ | refine S16 ?_ | refine S19 ?_ | refine S20 ?_ | refine S21 ?_ | refine S22 ?_ | refine S23 ?_ | refine S25 ?_ | refine S26 ?_ | refine S33 ?_ | refine S49 ?_ | refine S50 ?_ | refine S63 ?_)
      rw [ho]
      refine AW.binf EVx EVx (bshl_z n (by omega) (by omega) _ _ _) ?_
      repeat (first | refine S0 ?_ | refine S1 ?_ | refine S2 ?_ | refine S4 ?_ | refine S5 ?_ | refine S6 ?_ | refine S7 ?_ | refine S8 ?_ | refine S9 ?_ | refine S10 ?_ | refine S11 ?_ | refine S13 ?_ | refine S15 ?_ | refine S16 ?_ | refine S19 ?_ | refine S20 ?_ | refine S21 ?_ | refine S22 ?_ | refine S23 ?_ | refine S25 ?_ | refine S26 ?_ | refine S33 ?_ | refine S49 ?_ | refine S50 ?_ | refine S63 ?_)
      refine AW.binf EVx EVx (bor_s o n (by omega) g1 _ _ _) ?_
      repeat (first | refine S0 ?_ | refine S1 ?_ | refine S2 ?_ | refine S4 ?_ | refine S5 ?_ | refine S6 ?_ | refine S7 ?_ | refine S8 ?_ | refine S9 ?_ | refine S10 ?_ | refine S11 ?_ | refine S13 ?_ | refine S15 ?_ | refine S16 ?_ | refine S19 ?_ | refine S20 ?_ | refine S21 ?_ | refine S22 ?_ | refine S23 ?_ | refine S25 ?_ | refine S26 ?_ | refine S33 ?_ | refine S49 ?_ | refine S50 ?_ | refine S63 ?_)
      refine ⟨(k + 1, hp.tok false), ⟨by simp only; omega, HP.tok_even _⟩, ?_, ⟨?_, ?_⟩, by simp only; omega⟩
      · simp only
        rw [hts]
        exact SLx
      · simp only
        rw [hts]
        exact HBx
      · exact (by first | omega | (simp only [HP.tokF, HP.tokT, HP.next_add, HP.next_set, HP.next_kill, HP.next_H0, HP.next_addS, HP.next_setS, HP.next_killS, HP.next_put, HP.next_bump, HP.next_putS]; omega))
    · obtain rfl : k = L.length := by omega
      repeat (first | refine S0 ?_ | refine S1 ?_ | refine S2 ?_ | refine S4 ?_ | refine S5 ?_ | refine S6 ?_ | refine S7 ?_ | refine S8 ?_ | refine S9 ?_ | refine S10 ?_ | refine S11 ?_ | refine S13 ?_ | refine S15 ?_ | refine S16 ?_ | refine S19 ?_ | refine S20 ?_ | refine S21 ?_ | refine S22 ?_ | refine S23 ?_ | refine S25 ?_ | refine S26 ?_ | refine S33 ?_ | refine S49 ?_ | refine S50 ?_ | refine S63 ?_)
      exact ⟨.inr rfl, Ow.ints (zs := F L.length) (ys := F L.length) hB rfl rfl⟩
theorem not_dec {p : Prop} [Decidable p] : (!decide p) = decide (¬ p) := by by_cases h : p <;> simp [h]
set_option maxHeartbeats 4000000 in
set_option maxRecDepth 100000 in
theorem cfault1_s {n : Nat} (hn : 1 ≤ n ∧ n ≤ 7) (x : Int) : SC Tryd.prog 17 [pint x, .lptr [pli (chgL n)]] (.sc (.bool (decide (¬ gdC n x)))) := by
  have hl := chgL_len ⟨n, by omega⟩
  simp only at hl
  have kc := contains_x (xs := chgL n) (x := x) (by omega)
  refine SC.go {} tok mixed Tryd.func17 rfl rfl Tryd.ntmps17 rfl rfl (by kernel_rfl) ?_
  first | simp only [updS] | simp only [updL, Nat.reduceAdd]
  repeat (first | refine S0 ?_ | refine S1 ?_ | refine S2 ?_ | refine S7 ?_ | refine S8 ?_ | refine S19 ?_ | refine S20 ?_ | refine S26 ?_ | refine S36 ?_)
  refine Scall (args := [pli (chgL n), pint x]) kc ?_
  repeat (first | refine S0 ?_ | refine S1 ?_ | refine S2 ?_ | refine S7 ?_ | refine S8 ?_ | refine S19 ?_ | refine S20 ?_ | refine S26 ?_ | refine S36 ?_)
  rw [show (!decide (x ∈ chgL n)) = decide (¬ gdC n x) by rw [not_dec]; exact decide_eq_decide.2 (not_congr (mem_chg hn.1 hn.2 x))]
  exact ⟨.inr rfl, .cl rfl⟩
set_option maxHeartbeats 4000000 in
set_option maxRecDepth 100000 in
theorem cfault_s (n : Int) (l : List Int) : SC Tryd.prog 6 [pint n, pli l] (pint (chE n l)) := by
  refine SC.go {} tok mixed Tryd.func6 rfl rfl Tryd.ntmps6 rfl rfl (by kernel_rfl) ?_
  first | simp only [updS] | simp only [updL, Nat.reduceAdd]
  by_cases h1 : n < 1
  · rw [show chE n l = 1 from if_pos (.inl h1)]
    repeat (first | refine S0 ?_ | refine S1 ?_ | refine S2 ?_ | refine S5 ?_ | refine S7 ?_ | refine S8 ?_ | refine S9 ?_ | refine S15 ?_ | refine S16 ?_ | refine S19 ?_ | refine S20 ?_ | refine S21 ?_ | refine S23 ?_ | refine S30 ?_ | refine S37 ?_ | refine S38 ?_ | refine S40 ?_ | refine S41 ?_ | refine S56 ?_ | refine S65 ?_ | refine S68 ?_)
    exact ⟨.inr rfl, .cl rfl⟩
  by_cases h2 : 7 < n
  · rw [show chE n l = 1 from if_pos (.inr h2)]
    repeat (first | refine S0 ?_ | refine S1 ?_ | refine S2 ?_ | refine S5 ?_ | refine S7 ?_ | refine S8 ?_ | refine S9 ?_ | refine S15 ?_ | refine S16 ?_ | refine S19 ?_ | refine S20 ?_ | refine S21 ?_ | refine S23 ?_ | refine S30 ?_ | refine S37 ?_ | refine S38 ?_ | refine S40 ?_ | refine S41 ?_ | refine S56 ?_ | refine S65 ?_ | refine S68 ?_)
    exact ⟨.inr rfl, .cl rfl⟩
  have e1 : chE n l = if 5040 < l.length then 2 else if ∀ x ∈ l, gdC n.toNat x then 0 else 3 := if_neg (by omega)
  by_cases h3 : 5040 < l.length
  · rw [e1, if_pos h3]
    repeat (first | refine S0 ?_ | refine S1 ?_ | refine S2 ?_ | refine S5 ?_ | refine S7 ?_ | refine S8 ?_ | refine S9 ?_ | refine S15 ?_ | refine S16 ?_ | refine S19 ?_ | refine S20 ?_ | refine S21 ?_ | refine S23 ?_ | refine S30 ?_ | refine S37 ?_ | refine S38 ?_ | refine S40 ?_ | refine S41 ?_ | refine S56 ?_ | refine S65 ?_ | refine S68 ?_)
    exact ⟨.inr rfl, .cl rfl⟩
  obtain ⟨r, rfl⟩ : ∃ r : Nat, n = (r : Int) := ⟨n.toNat, by omega⟩
  rw [Int.toNat_natCast, if_neg h3] at e1
  have kc := bcontains_cap (f := 17) (cap := [.lptr [pli (chgL r)]]) (p := fun x => gdC r x) (by simp [PV.cl.clL, PV.cl, pli_cl]) (fun x => cfault1_s (by omega) x) l (by omega)
  have k1 : SC Tryd.prog 15 [pint r] (pli (chgL r)) := (changes_o r (by omega)).sc (by simp)
  rw [e1]
  repeat (first | refine S0 ?_ | refine S1 ?_ | refine S2 ?_ | refine S5 ?_ | refine S7 ?_ | refine S8 ?_ | refine S9 ?_ | refine S15 ?_ | refine S16 ?_ | refine S19 ?_ | refine S20 ?_ | refine S21 ?_ | refine S23 ?_ | refine S30 ?_ | refine S37 ?_ | refine S38 ?_ | refine S40 ?_ | refine S41 ?_ | refine S56 ?_ | refine S65 ?_ | refine S68 ?_)
  refine Scall (args := [pint r]) k1 ?_
  iterate 4 (first | refine S0 ?_ | refine S1 ?_ | refine S2 ?_ | refine S5 ?_ | refine S7 ?_ | refine S8 ?_ | refine S9 ?_ | refine S15 ?_ | refine S16 ?_ | refine S19 ?_ | refine S20 ?_ | refine S21 ?_ | refine S23 ?_ | refine S30 ?_ | refine S37 ?_ | refine S38 ?_ | refine S40 ?_ | refine S41 ?_ | refine S56 ?_ | refine S65 ?_ | refine S68 ?_)
  refine CW.freezeP 5 (tk := 1) rfl (by exact HBx) ?_
  by_cases h4 : ∀ x ∈ l, gdC r x
  · rw [if_pos h4]
    rw [decide_eq_false (fun c => c h4)] at kc
    repeat (first | refine S0 ?_ | refine S1 ?_ | refine S2 ?_ | refine S5 ?_ | refine S7 ?_ | refine S8 ?_ | refine S9 ?_ | refine S15 ?_ | refine S16 ?_ | refine S19 ?_ | refine S20 ?_ | refine S21 ?_ | refine S23 ?_ | refine S30 ?_ | refine S37 ?_ | refine S38 ?_ | refine S40 ?_ | refine S41 ?_ | refine S56 ?_ | refine S65 ?_ | refine S68 ?_)
    refine Scall (args := [pli l, .clo 17 [.lptr [pli (chgL r)]]]) kc ?_
    repeat (first | refine S0 ?_ | refine S1 ?_ | refine S2 ?_ | refine S5 ?_ | refine S7 ?_ | refine S8 ?_ | refine S9 ?_ | refine S15 ?_ | refine S16 ?_ | refine S19 ?_ | refine S20 ?_ | refine S21 ?_ | refine S23 ?_ | refine S30 ?_ | refine S37 ?_ | refine S38 ?_ | refine S40 ?_ | refine S41 ?_ | refine S56 ?_ | refine S65 ?_ | refine S68 ?_)
    exact ⟨.inr rfl, .cl rfl⟩
  · rw [if_neg h4]
    rw [decide_eq_true h4] at kc
    repeat (first | refine S0 ?_ | refine S1 ?_ | refine S2 ?_ | refine S5 ?_ | refine S7 ?_ | refine S8 ?_ | refine S9 ?_ | refine S15 ?_ | refine S16 ?_ | refine S19 ?_ | refine S20 ?_ | refine S21 ?_ | refine S23 ?_ | refine S30 ?_ | refine S37 ?_ | refine S38 ?_ | refine S40 ?_ | refine S41 ?_ | refine S56 ?_ | refine S65 ?_ | refine S68 ?_)
    refine Scall (args := [pli l, .clo 17 [.lptr [pli (chgL r)]]]) kc ?_
    repeat (first | refine S0 ?_ | refine S1 ?_ | refine S2 ?_ | refine S5 ?_ | refine S7 ?_ | refine S8 ?_ | refine S9 ?_ | refine S15 ?_ | refine S16 ?_ | refine S19 ?_ | refine S20 ?_ | refine S21 ?_ | refine S23 ?_ | refine S30 ?_ | refine S37 ?_ | refine S38 ?_ | refine S40 ?_ | refine S41 ?_ | refine S56 ?_ | refine S65 ?_ | refine S68 ?_)
    exact ⟨.inr rfl, .cl rfl⟩
end Go.Proofs.YtkmkcbkfakoomaaDoor
