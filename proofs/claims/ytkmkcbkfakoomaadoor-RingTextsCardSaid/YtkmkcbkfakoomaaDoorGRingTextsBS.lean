/- Facts and contracts that the claim uses. No condition of its own. -/
import Derived.Test.YtkmkcbkfakoomaaDoorGRingTextsBR
set_option linter.unusedVariables false
set_option linter.unusedSimpArgs false
namespace Go.Proofs.YtkmkcbkfakoomaaDoor
open Go.RowKit
theorem beq_dec8 (a b : Int) : (a == b) = decide (a = b) := by by_cases h : a = b <;> simp [h]
theorem u8_neq (a b : Int) (t : TypeId) (p q : Operand) (w : World) : (do eqGuard .neq t p q (.int .u8 a) (.int .u8 b); binOp .neq t (.int .u8 a) (.int .u8 b) : Sem Value).run Tryd.prog w = .ok (.bool (!decide (a = b))) w := by
  have h1 : (eqGuard .neq t p q (.int .u8 a) (.int .u8 b)).run Tryd.prog w = .ok () w := rfl
  rw [Sem.run_bind, h1]
  simp [binOp, Op.intCmp, bne, beq_dec8]
theorem u8_eql (a b : Int) (t : TypeId) (p q : Operand) (w : World) : (do eqGuard .eql t p q (.int .u8 a) (.int .u8 b); binOp .eql t (.int .u8 a) (.int .u8 b) : Sem Value).run Tryd.prog w = .ok (.bool (decide (a = b))) w := by
  have h1 : (eqGuard .eql t p q (.int .u8 a) (.int .u8 b)).run Tryd.prog w = .ok () w := rfl
  rw [Sem.run_bind, h1]
  simp [binOp, Op.intCmp, beq_dec8]
theorem u8_int (x : UInt8) (k : Nat) (hk : k < 256) : (((x.toNat : Nat) : Int) = (k : Int)) ↔ x = UInt8.ofNat k := by
  constructor
  · intro h
    have : x.toNat = k := by omega
    apply UInt8.toNat_inj.1
    rw [this]; simp; omega
  · rintro rfl
    simp; omega
theorem prs_bd (n : Nat) (hn : 1 ≤ n ∧ n ≤ 7) (s : List UInt8) : ∀ f i, ∀ x ∈ prs n s f i, 0 ≤ x ∧ x < 64
  | 0, i => by simp [prs]
  | f + 1, i => by
    intro x hx
    unfold prs at hx
    split at hx
    · rcases List.mem_cons.1 hx with rfl | hx
      · have := coL_lt hn.2 ((s.drop i).take (endT s i - i))
        omega
      · exact prs_bd n hn s f _ x hx
    · simp at hx
theorem Fz.clipI {h : HP} (xs : List Int) : Fz h (.lst true 1 xs.length (ints xs)) (pli xs) := by
  have e : PV.lst true 1 xs.length (ints xs) = PV.lst true 1 xs.length (ints xs) := rfl
  have := Fz.nrm (h := h) (p := .lst true 1 xs.length (ints xs)) (by simp [PV.cl, ints_cl])
  simpa [PV.nrm, PV.nrm0, pli] using this
set_option maxHeartbeats 8000000 in
set_option maxRecDepth 100000 in
theorem parse_s (n : Int) (s : List UInt8) : SC Tryd.prog 5 [pint n, pstr s] (.tup [pli (psL n s), pint (psE n s)]) := by
  refine SC.go {} tok mixed Tryd.func5 rfl rfl Tryd.ntmps5 rfl rfl (by kernel_rfl) ?_
  first | simp only [updS] | simp only [updL, Nat.reduceAdd]
  by_cases h1 : n < 1
  · have e : psE n s = 1 := if_pos (.inl h1)
    rw [show psL n s = [] from if_neg (by rw [e]; decide), e]
    repeat (first | refine S0 ?_ | refine S1 ?_ | refine S2 ?_ | refine S4 ?_ | refine S5 ?_ | refine S6 ?_ | refine S7 ?_ | refine S8 ?_ | refine S9 ?_ | refine S10 ?_ | refine S11 ?_ | refine S13 ?_ | refine S15 ?_ | refine S16 ?_ | refine S19 ?_ | refine S20 ?_ | refine S21 ?_ | refine S22 ?_ | refine S30 ?_ | refine S37 ?_ | refine S38 ?_ | refine S40 ?_ | refine S41 ?_ | refine S49 ?_ | refine S63 ?_)
    exact ⟨.inr rfl, Fz.pair (.nrm rfl) (.cl rfl)⟩
  by_cases h2 : 7 < n
  · have e : psE n s = 1 := if_pos (.inr h2)
    rw [show psL n s = [] from if_neg (by rw [e]; decide), e]
    repeat (first | refine S0 ?_ | refine S1 ?_ | refine S2 ?_ | refine S4 ?_ | refine S5 ?_ | refine S6 ?_ | refine S7 ?_ | refine S8 ?_ | refine S9 ?_ | refine S10 ?_ | refine S11 ?_ | refine S13 ?_ | refine S15 ?_ | refine S16 ?_ | refine S19 ?_ | refine S20 ?_ | refine S21 ?_ | refine S22 ?_ | refine S30 ?_ | refine S37 ?_ | refine S38 ?_ | refine S40 ?_ | refine S41 ?_ | refine S49 ?_ | refine S63 ?_)
    exact ⟨.inr rfl, Fz.pair (.nrm rfl) (.cl rfl)⟩
  have e1 : psE n s = if 5040 < s.length then 2 else if txt n.toNat (prsL n.toNat s) = s then 0 else 8 := if_neg (by omega)
  by_cases h3 : 5040 < s.length
  · rw [if_pos h3] at e1
    rw [show psL n s = [] from if_neg (by rw [e1]; decide), e1]
    repeat (first | refine S0 ?_ | refine S1 ?_ | refine S2 ?_ | refine S4 ?_ | refine S5 ?_ | refine S6 ?_ | refine S7 ?_ | refine S8 ?_ | refine S9 ?_ | refine S10 ?_ | refine S11 ?_ | refine S13 ?_ | refine S15 ?_ | refine S16 ?_ | refine S19 ?_ | refine S20 ?_ | refine S21 ?_ | refine S22 ?_ | refine S30 ?_ | refine S37 ?_ | refine S38 ?_ | refine S40 ?_ | refine S41 ?_ | refine S49 ?_ | refine S63 ?_)
    refine AW.lenS rfl EVx bt_str ?_
    repeat (first | refine S0 ?_ | refine S1 ?_ | refine S2 ?_ | refine S4 ?_ | refine S5 ?_ | refine S6 ?_ | refine S7 ?_ | refine S8 ?_ | refine S9 ?_ | refine S10 ?_ | refine S11 ?_ | refine S13 ?_ | refine S15 ?_ | refine S16 ?_ | refine S19 ?_ | refine S20 ?_ | refine S21 ?_ | refine S22 ?_ | refine S30 ?_ | refine S37 ?_ | refine S38 ?_ | refine S40 ?_ | refine S41 ?_ | refine S49 ?_ | refine S63 ?_)
    exact ⟨.inr rfl, Fz.pair (.nrm rfl) (.cl rfl)⟩
  rw [if_neg h3] at e1
  obtain ⟨m, rfl⟩ : ∃ m : Nat, n = m := ⟨n.toNat, by omega⟩
  rw [Int.toNat_natCast] at e1
  repeat (first | refine S0 ?_ | refine S1 ?_ | refine S2 ?_ | refine S4 ?_ | refine S5 ?_ | refine S6 ?_ | refine S7 ?_ | refine S8 ?_ | refine S9 ?_ | refine S10 ?_ | refine S11 ?_ | refine S13 ?_ | refine S15 ?_ | refine S16 ?_ | refine S19 ?_ | refine S20 ?_ | refine S21 ?_ | refine S22 ?_ | refine S30 ?_ | refine S37 ?_ | refine S38 ?_ | refine S40 ?_ | refine S41 ?_ | refine S49 ?_ | refine S63 ?_)
  refine AW.lenS rfl EVx bt_str ?_
  repeat (first | refine S0 ?_ | refine S1 ?_ | refine S2 ?_ | refine S4 ?_ | refine S5 ?_ | refine S6 ?_ | refine S7 ?_ | refine S8 ?_ | refine S9 ?_ | refine S10 ?_ | refine S11 ?_ | refine S13 ?_ | refine S15 ?_ | refine S16 ?_ | refine S19 ?_ | refine S20 ?_ | refine S21 ?_ | refine S22 ?_ | refine S30 ?_ | refine S37 ?_ | refine S38 ?_ | refine S40 ?_ | refine S41 ?_ | refine S49 ?_ | refine S63 ?_)
  refine CW.own 6 1 rfl ?_
  refine CW.loopS (fun i : Nat × Nat × Nat × List Int => s.length ≤ i.1 + i.2.1 ∧ i.2.1 ≤ s.length ∧ i.2.2.2 ++ prs m s i.1 i.2.1 = prsL m s ∧ i.2.2.1 % 2 = 0) (fun i => [(0, pint m), (1, pstr s), (6, .ref i.2.2.1 0 1 i.2.2.2.length), (7, pint i.2.1)])
    (fun i h => h.blk i.2.2.1 = some (ints i.2.2.2) ∧ i.2.2.1 < 2 * h.next) (fun i => i.1) (s.length, 0, 0, []) ⟨⟨by simp, by simp, rfl, rfl⟩, SLx, HBx, (by first | omega | (simp only [HP.tokF, HP.tokT, HP.next_add, HP.next_set, HP.next_kill, HP.next_H0, HP.next_addS, HP.next_setS, HP.next_killS, HP.next_put, HP.next_bump, HP.next_putS]; omega))⟩ ?_
  rintro ⟨f, i, T, out⟩ t hp ⟨hf, hin, hR, hT2⟩ ⟨hB, hTl⟩
  simp only at hf hin hR hT2 hB hTl
  first | simp only [updS] | simp only [updL, Nat.reduceAdd]
  have hol : out.length ≤ 5040 := by
    have h5 := prs_len m s s.length 0
    have h6 := congrArg List.length hR
    rw [List.length_append] at h6
    unfold prsL at h6
    omega
  by_cases hi : i < s.length
  · obtain ⟨f, rfl⟩ : ∃ f', f = f' + 1 := ⟨f - 1, by omega⟩
    rw [prs, if_pos hi] at hR
    repeat (first | refine S0 ?_ | refine S1 ?_ | refine S2 ?_ | refine S4 ?_ | refine S5 ?_ | refine S6 ?_ | refine S7 ?_ | refine S8 ?_ | refine S9 ?_ | refine S10 ?_ | refine S11 ?_ | refine S13 ?_ | refine S15 ?_ | refine S16 ?_ | refine S19 ?_ | refine S20 ?_ | refine S21 ?_ | refine S22 ?_ | refine S30 ?_ | refine S37 ?_ | refine S38 ?_ | refine S40 ?_ | refine S41 ?_ | refine S49 ?_ | refine S63 ?_)
    refine AW.lenS rfl EVx bt_str ?_
    repeat (first | refine S0 ?_ | refine S1 ?_ | refine S2 ?_ | refine S4 ?_ | refine S5 ?_ | refine S6 ?_ | refine S7 ?_ | refine S8 ?_ | refine S9 ?_ | refine S10 ?_ | refine S11 ?_ | refine S13 ?_ | refine S15 ?_ | refine S16 ?_ | refine S19 ?_ | refine S20 ?_ | refine S21 ?_ | refine S22 ?_ | refine S30 ?_ | refine S37 ?_ | refine S38 ?_ | refine S40 ?_ | refine S41 ?_ | refine S49 ?_ | refine S63 ?_)
    refine AW.ixS (i := i) rfl EVx EVx rfl bt_str hi ?_
    repeat (first | refine S0 ?_ | refine S1 ?_ | refine S2 ?_ | refine S4 ?_ | refine S5 ?_ | refine S6 ?_ | refine S7 ?_ | refine S8 ?_ | refine S9 ?_ | refine S10 ?_ | refine S11 ?_ | refine S13 ?_ | refine S15 ?_ | refine S16 ?_ | refine S19 ?_ | refine S20 ?_ | refine S21 ?_ | refine S22 ?_ | refine S30 ?_ | refine S37 ?_ | refine S38 ?_ | refine S40 ?_ | refine S41 ?_ | refine S49 ?_ | refine S63 ?_)
    refine AW.binf EVx EVx (u8_neq _ _ _ _ _) ?_
    repeat (first | refine S0 ?_ | refine S1 ?_ | refine S2 ?_ | refine S4 ?_ | refine S5 ?_ | refine S6 ?_ | refine S7 ?_ | refine S8 ?_ | refine S9 ?_ | refine S10 ?_ | refine S11 ?_ | refine S13 ?_ | refine S15 ?_ | refine S16 ?_ | refine S19 ?_ | refine S20 ?_ | refine S21 ?_ | refine S22 ?_ | refine S30 ?_ | refine S37 ?_ | refine S38 ?_ | refine S40 ?_ | refine S41 ?_ | refine S49 ?_ | refine S63 ?_)
    obtain ⟨E, hE⟩ : ∃ E, E = endT s i := ⟨_, rfl⟩
    have hEl := endT_le hi
    have hNl := nxtT_le (s := s) (k := E) (by rw [hE]; exact hEl.2)
    rw [← hE] at hR hEl
    refine CW.midS (fun _ : Unit => True) (fun _ => [(0, pint m), (1, pstr s), (6, .ref T 0 1 out.length), (7, pint i), (8, pint E)]) (fun _ h => h.blk T = some (ints out) ∧ T < 2 * h.next) ?_ ?_
    · by_cases hx : s.getD i 0 = 120
      · have hx1 : (((s.getD i 0).toNat : Nat) : Int) = 120 := (u8_int _ 120 (by decide)).2 hx
        have hE2 : E = i + 1 := by rw [hE]; exact if_pos hx
        repeat (first | refine S0 ?_ | refine S1 ?_ | refine S2 ?_ | refine S4 ?_ | refine S5 ?_ | refine S6 ?_ | refine S7 ?_ | refine S8 ?_ | refine S9 ?_ | refine S10 ?_ | refine S11 ?_ | refine S13 ?_ | refine S15 ?_ | refine S16 ?_ | refine S19 ?_ | refine S20 ?_ | refine S21 ?_ | refine S22 ?_ | refine S30 ?_ | refine S37 ?_ | refine S38 ?_ | refine S40 ?_ | refine S41 ?_ | refine S49 ?_ | refine S63 ?_)
        exact ⟨(), trivial, by rw [hE2]; exact SLx, hB, hTl⟩
      · have hx1 : ¬ (((s.getD i 0).toNat : Nat) : Int) = 120 := fun e => hx ((u8_int _ 120 (by decide)).1 e)
        have hE2 : runT s s.length (i + 1) = E := by rw [hE]; exact (if_neg hx).symm
        repeat (first | refine S0 ?_ | refine S1 ?_ | refine S2 ?_ | refine S4 ?_ | refine S5 ?_ | refine S6 ?_ | refine S7 ?_ | refine S8 ?_ | refine S9 ?_ | refine S10 ?_ | refine S11 ?_ | refine S13 ?_ | refine S15 ?_ | refine S16 ?_ | refine S19 ?_ | refine S20 ?_ | refine S21 ?_ | refine S22 ?_ | refine S30 ?_ | refine S37 ?_ | refine S38 ?_ | refine S40 ?_ | refine S41 ?_ | refine S49 ?_ | refine S63 ?_)
        refine CW.loopS (fun g : Nat × Nat => s.length ≤ g.1 + g.2 ∧ g.2 ≤ s.length ∧ runT s g.1 g.2 = E) (fun g => [(0, pint m), (1, pstr s), (6, .ref T 0 1 out.length), (7, pint i), (8, pint g.2)]) (fun g h => h.blk T = some (ints out) ∧ T < 2 * h.next) (fun g => g.1) (s.length, i + 1) ⟨⟨by simp only; omega, by simp only; omega, hE2⟩, SLx, hB, hTl⟩ ?_
        clear hB hTl hx1 hE2
        clear t hp
        rintro ⟨g, k⟩ t hp ⟨hg, hk, hgE⟩ ⟨hB, hTl⟩
        simp only at hg hk hgE hB hTl
        first | simp only [updS] | simp only [updL, Nat.reduceAdd]
        repeat (first | refine S0 ?_ | refine S1 ?_ | refine S2 ?_ | refine S4 ?_ | refine S5 ?_ | refine S6 ?_ | refine S7 ?_ | refine S8 ?_ | refine S9 ?_ | refine S10 ?_ | refine S11 ?_ | refine S13 ?_ | refine S15 ?_ | refine S16 ?_ | refine S19 ?_ | refine S20 ?_ | refine S21 ?_ | refine S22 ?_ | refine S30 ?_ | refine S37 ?_ | refine S38 ?_ | refine S40 ?_ | refine S41 ?_ | refine S49 ?_ | refine S63 ?_)
        by_cases hk2 : k < s.length
        · obtain ⟨g, rfl⟩ : ∃ g', g = g' + 1 := ⟨g - 1, by omega⟩
          rw [runT] at hgE
          refine AW.lenS rfl EVx bt_str ?_
          repeat (first | refine S0 ?_ | refine S1 ?_ | refine S2 ?_ | refine S4 ?_ | refine S5 ?_ | refine S6 ?_ | refine S7 ?_ | refine S8 ?_ | refine S9 ?_ | refine S10 ?_ | refine S11 ?_ | refine S13 ?_ | refine S15 ?_ | refine S16 ?_ | refine S19 ?_ | refine S20 ?_ | refine S21 ?_ | refine S22 ?_ | refine S30 ?_ | refine S37 ?_ | refine S38 ?_ | refine S40 ?_ | refine S41 ?_ | refine S49 ?_ | refine S63 ?_)
          refine AW.ixS (i := k) rfl EVx EVx rfl bt_str hk2 ?_
          repeat (first | refine S0 ?_ | refine S1 ?_ | refine S2 ?_ | refine S4 ?_ | refine S5 ?_ | refine S6 ?_ | refine S7 ?_ | refine S8 ?_ | refine S9 ?_ | refine S10 ?_ | refine S11 ?_ | refine S13 ?_ | refine S15 ?_ | refine S16 ?_ | refine S19 ?_ | refine S20 ?_ | refine S21 ?_ | refine S22 ?_ | refine S30 ?_ | refine S37 ?_ | refine S38 ?_ | refine S40 ?_ | refine S41 ?_ | refine S49 ?_ | refine S63 ?_)
          refine AW.binf EVx EVx (u8_neq _ _ _ _ _) ?_
          by_cases ha : s.getD k 0 = 120
          · have ha1 : (((s.getD k 0).toNat : Nat) : Int) = 120 := (u8_int _ 120 (by decide)).2 ha
            rw [if_neg (fun c => c.2.1 ha)] at hgE
            subst hgE
            repeat (first | refine S0 ?_ | refine S1 ?_ | refine S2 ?_ | refine S4 ?_ | refine S5 ?_ | refine S6 ?_ | refine S7 ?_ | refine S8 ?_ | refine S9 ?_ | refine S10 ?_ | refine S11 ?_ | refine S13 ?_ | refine S15 ?_ | refine S16 ?_ | refine S19 ?_ | refine S20 ?_ | refine S21 ?_ | refine S22 ?_ | refine S30 ?_ | refine S37 ?_ | refine S38 ?_ | refine S40 ?_ | refine S41 ?_ | refine S49 ?_ | refine S63 ?_)
            exact ⟨(), trivial, SLx, hB, hTl⟩
          · have ha1 : ¬ (((s.getD k 0).toNat : Nat) : Int) = 120 := fun e => ha ((u8_int _ 120 (by decide)).1 e)
            repeat (first | refine S0 ?_ | refine S1 ?_ | refine S2 ?_ | refine S4 ?_ | refine S5 ?_ | refine S6 ?_ | refine S7 ?_ | refine S8 ?_ | refine S9 ?_ | refine S10 ?_ | refine S11 ?_ | refine S13 ?_ | refine S15 ?_ | refine S16 ?_ | refine S19 ?_ | refine S20 ?_ | refine S21 ?_ | refine S22 ?_ | refine S30 ?_ | refine S37 ?_ | refine S38 ?_ | refine S40 ?_ | refine S41 ?_ | refine S49 ?_ | refine S63 ?_)
            refine AW.ixS (i := k) rfl EVx EVx rfl bt_str hk2 ?_
            repeat (first | refine S0 ?_ | refine S1 ?_ | refine S2 ?_ | refine S4 ?_ | refine S5 ?_ | refine S6 ?_ | refine S7 ?_ | refine S8 ?_ | refine S9 ?_ | refine S10 ?_ | refine S11 ?_ | refine S13 ?_ | refine S15 ?_ | refine S16 ?_ | refine S19 ?_ | refine S20 ?_ | refine S21 ?_ | refine S22 ?_ | refine S30 ?_ | refine S37 ?_ | refine S38 ?_ | refine S40 ?_ | refine S41 ?_ | refine S49 ?_ | refine S63 ?_)
            refine AW.binf EVx EVx (u8_neq _ _ _ _ _) ?_
            by_cases hb : s.getD k 0 = 46
            · have hb1 : (((s.getD k 0).toNat : Nat) : Int) = 46 := (u8_int _ 46 (by decide)).2 hb
              rw [if_neg (fun c => c.2.2 hb)] at hgE
              subst hgE
              repeat (first | refine S0 ?_ | refine S1 ?_ | refine S2 ?_ | refine S4 ?_ | refine S5 ?_ | refine S6 ?_ | refine S7 ?_ | refine S8 ?_ | refine S9 ?_ | refine S10 ?_ | refine S11 ?_ | refine S13 ?_ | refine S15 ?_ | refine S16 ?_ | refine S19 ?_ | refine S20 ?_ | refine S21 ?_ | refine S22 ?_ | refine S30 ?_ | refine S37 ?_ | refine S38 ?_ | refine S40 ?_ | refine S41 ?_ | refine S49 ?_ | refine S63 ?_)
              exact ⟨(), trivial, SLx, hB, hTl⟩
            · have hb1 : ¬ (((s.getD k 0).toNat : Nat) : Int) = 46 := fun e => hb ((u8_int _ 46 (by decide)).1 e)
              rw [if_pos ⟨hk2, ha, hb⟩] at hgE
              repeat (first | refine S0 ?_ | refine S1 ?_ | refine S2 ?_ | refine S4 ?_ | refine S5 ?_ | refine S6 ?_ | refine S7 ?_ | refine S8 ?_ | refine S9 ?_ | refine S10 ?_ | refine S11 ?_ | refine S13 ?_ | refine S15 ?_ | refine S16 ?_ | refine S19 ?_ | refine S20 ?_ | refine S21 ?_ | refine S22 ?_ | refine S30 ?_ | refine S37 ?_ | refine S38 ?_ | refine S40 ?_ | refine S41 ?_ | refine S49 ?_ | refine S63 ?_)
              exact ⟨(g, k + 1), ⟨by simp only; omega, by simp only; omega, hgE⟩, SLx, ⟨hB, hTl⟩, by simp only; omega⟩
        · have hgE2 : E = k := by
            cases g with
            | zero => exact hgE.symm
            | succ g => rw [runT, if_neg (fun c => hk2 c.1)] at hgE; exact hgE.symm
          subst hgE2
          refine AW.lenS rfl EVx bt_str ?_
          repeat (first | refine S0 ?_ | refine S1 ?_ | refine S2 ?_ | refine S4 ?_ | refine S5 ?_ | refine S6 ?_ | refine S7 ?_ | refine S8 ?_ | refine S9 ?_ | refine S10 ?_ | refine S11 ?_ | refine S13 ?_ | refine S15 ?_ | refine S16 ?_ | refine S19 ?_ | refine S20 ?_ | refine S21 ?_ | refine S22 ?_ | refine S30 ?_ | refine S37 ?_ | refine S38 ?_ | refine S40 ?_ | refine S41 ?_ | refine S49 ?_ | refine S63 ?_)
          exact ⟨(), trivial, SLx, hB, hTl⟩
    · clear hB hTl
      clear t hp
      rintro _ t hp _ ⟨hB, hTl⟩
      first | simp only [updS] | simp only [updL, Nat.reduceAdd]
      have kc := changeOf_s (n := m) (by omega) ((s.drop i).take (E - i))
      repeat (first | refine S0 ?_ | refine S1 ?_ | refine S2 ?_ | refine S4 ?_ | refine S5 ?_ | refine S6 ?_ | refine S7 ?_ | refine S8 ?_ | refine S9 ?_ | refine S10 ?_ | refine S11 ?_ | refine S13 ?_ | refine S15 ?_ | refine S16 ?_ | refine S19 ?_ | refine S20 ?_ | refine S21 ?_ | refine S22 ?_ | refine S30 ?_ | refine S37 ?_ | refine S38 ?_ | refine S40 ?_ | refine S41 ?_ | refine S49 ?_ | refine S63 ?_)
      refine AW.slS (i := i) (j := E) rfl EVx EVx EVx rfl rfl bt_str (by omega) hEl.2 ?_
      repeat (first | refine S0 ?_ | refine S1 ?_ | refine S2 ?_ | refine S4 ?_ | refine S5 ?_ | refine S6 ?_ | refine S7 ?_ | refine S8 ?_ | refine S9 ?_ | refine S10 ?_ | refine S11 ?_ | refine S13 ?_ | refine S15 ?_ | refine S16 ?_ | refine S19 ?_ | refine S20 ?_ | refine S21 ?_ | refine S22 ?_ | refine S30 ?_ | refine S37 ?_ | refine S38 ?_ | refine S40 ?_ | refine S41 ?_ | refine S49 ?_ | refine S63 ?_)
      refine Scall (args := [pint m, pstr ((s.drop i).take (E - i))]) kc ?_
      generalize coL m ((s.drop i).take (E - i)) = cv at *
      have hR2 : (out ++ [(cv : Int)]) ++ prs m s f (nxtT s E) = prsL m s := by rw [← hR]; simp
      repeat (first | refine S0 ?_ | refine S1 ?_ | refine S2 ?_ | refine S4 ?_ | refine S5 ?_ | refine S6 ?_ | refine S7 ?_ | refine S8 ?_ | refine S9 ?_ | refine S10 ?_ | refine S11 ?_ | refine S13 ?_ | refine S15 ?_ | refine S16 ?_ | refine S19 ?_ | refine S20 ?_ | refine S21 ?_ | refine S22 ?_ | refine S30 ?_ | refine S37 ?_ | refine S38 ?_ | refine S40 ?_ | refine S41 ?_ | refine S49 ?_ | refine S63 ?_)
      refine AW.lenS rfl EVx bt_str ?_
      by_cases hk2 : E < s.length
      · repeat (first | refine S0 ?_ | refine S1 ?_ | refine S2 ?_ | refine S4 ?_ | refine S5 ?_ | refine S6 ?_ | refine S7 ?_ | refine S8 ?_ | refine S9 ?_ | refine S10 ?_ | refine S11 ?_ | refine S13 ?_ | refine S15 ?_ | refine S16 ?_ | refine S19 ?_ | refine S20 ?_ | refine S21 ?_ | refine S22 ?_ | refine S30 ?_ | refine S37 ?_ | refine S38 ?_ | refine S40 ?_ | refine S41 ?_ | refine S49 ?_ | refine S63 ?_)
        refine AW.ixS (i := E) rfl EVx EVx rfl bt_str hk2 ?_
        repeat (first | refine S0 ?_ | refine S1 ?_ | refine S2 ?_ | refine S4 ?_ | refine S5 ?_ | refine S6 ?_ | refine S7 ?_ | refine S8 ?_ | refine S9 ?_ | refine S10 ?_ | refine S11 ?_ | refine S13 ?_ | refine S15 ?_ | refine S16 ?_ | refine S19 ?_ | refine S20 ?_ | refine S21 ?_ | refine S22 ?_ | refine S30 ?_ | refine S37 ?_ | refine S38 ?_ | refine S40 ?_ | refine S41 ?_ | refine S49 ?_ | refine S63 ?_)
        refine AW.binf EVx EVx (u8_eql _ _ _ _ _) ?_
        by_cases hb : s.getD E 0 = 46
        · have hb1 : (((s.getD E 0).toNat : Nat) : Int) = 46 := (u8_int _ 46 (by decide)).2 hb
          have hn1 : nxtT s E = E + 1 := if_pos ⟨hk2, hb⟩
          rw [hn1] at hR2
          repeat (first | refine S0 ?_ | refine S1 ?_ | refine S2 ?_ | refine S4 ?_ | refine S5 ?_ | refine S6 ?_ | refine S7 ?_ | refine S8 ?_ | refine S9 ?_ | refine S10 ?_ | refine S11 ?_ | refine S13 ?_ | refine S15 ?_ | refine S16 ?_ | refine S19 ?_ | refine S20 ?_ | refine S21 ?_ | refine S22 ?_ | refine S30 ?_ | refine S37 ?_ | refine S38 ?_ | refine S40 ?_ | refine S41 ?_ | refine S49 ?_ | refine S63 ?_)
          exact ⟨(f, E + 1, hp.tok false, out ++ [(cv : Int)]), ⟨by simp only; omega, by simp only; omega, hR2, HP.tok_even _⟩, SLx, ⟨HBx, (by first | omega | (simp only [HP.tokF, HP.tokT, HP.next_add, HP.next_set, HP.next_kill, HP.next_H0, HP.next_addS, HP.next_setS, HP.next_killS, HP.next_put, HP.next_bump, HP.next_putS]; omega))⟩, by simp only; omega⟩
        · have hb1 : ¬ (((s.getD E 0).toNat : Nat) : Int) = 46 := fun e => hb ((u8_int _ 46 (by decide)).1 e)
          have hn1 : nxtT s E = E := if_neg (fun c => hb c.2)
          rw [hn1] at hR2
          repeat (first | refine S0 ?_ | refine S1 ?_ | refine S2 ?_ | refine S4 ?_ | refine S5 ?_ | refine S6 ?_ | refine S7 ?_ | refine S8 ?_ | refine S9 ?_ | refine S10 ?_ | refine S11 ?_ | refine S13 ?_ | refine S15 ?_ | refine S16 ?_ | refine S19 ?_ | refine S20 ?_ | refine S21 ?_ | refine S22 ?_ | refine S30 ?_ | refine S37 ?_ | refine S38 ?_ | refine S40 ?_ | refine S41 ?_ | refine S49 ?_ | refine S63 ?_)
          exact ⟨(f, E, hp.tok false, out ++ [(cv : Int)]), ⟨by simp only; omega, by simp only; omega, hR2, HP.tok_even _⟩, SLx, ⟨HBx, (by first | omega | (simp only [HP.tokF, HP.tokT, HP.next_add, HP.next_set, HP.next_kill, HP.next_H0, HP.next_addS, HP.next_setS, HP.next_killS, HP.next_put, HP.next_bump, HP.next_putS]; omega))⟩, by simp only; omega⟩
      · have hn1 : nxtT s E = E := if_neg (fun c => hk2 c.1)
        rw [hn1] at hR2
        repeat (first | refine S0 ?_ | refine S1 ?_ | refine S2 ?_ | refine S4 ?_ | refine S5 ?_ | refine S6 ?_ | refine S7 ?_ | refine S8 ?_ | refine S9 ?_ | refine S10 ?_ | refine S11 ?_ | refine S13 ?_ | refine S15 ?_ | refine S16 ?_ | refine S19 ?_ | refine S20 ?_ | refine S21 ?_ | refine S22 ?_ | refine S30 ?_ | refine S37 ?_ | refine S38 ?_ | refine S40 ?_ | refine S41 ?_ | refine S49 ?_ | refine S63 ?_)
        exact ⟨(f, E, hp.tok false, out ++ [(cv : Int)]), ⟨by simp only; omega, by simp only; omega, hR2, HP.tok_even _⟩, SLx, ⟨HBx, (by first | omega | (simp only [HP.tokF, HP.tokT, HP.next_add, HP.next_set, HP.next_kill, HP.next_H0, HP.next_addS, HP.next_setS, HP.next_killS, HP.next_put, HP.next_bump, HP.next_putS]; omega))⟩, by simp only; omega⟩
  · have hP : prs m s f i = [] := by
      cases f with
      | zero => rfl
      | succ f => rw [prs, if_neg hi]
    rw [hP, List.append_nil] at hR
    subst hR
    have kt := text_s (n := m) (l := prsL m s) (by omega) (by omega) (prs_bd m (by omega) s _ _)
    refine CW.freezeI (xs := prsL m s) 6 (by rfl) (by exact hB) ?_
    repeat (first | refine S0 ?_ | refine S1 ?_ | refine S2 ?_ | refine S4 ?_ | refine S5 ?_ | refine S6 ?_ | refine S7 ?_ | refine S8 ?_ | refine S9 ?_ | refine S10 ?_ | refine S11 ?_ | refine S13 ?_ | refine S15 ?_ | refine S16 ?_ | refine S19 ?_ | refine S20 ?_ | refine S21 ?_ | refine S22 ?_ | refine S30 ?_ | refine S37 ?_ | refine S38 ?_ | refine S40 ?_ | refine S41 ?_ | refine S49 ?_ | refine S63 ?_)
    refine AW.lenS rfl EVx bt_str ?_
    repeat (first | refine S0 ?_ | refine S1 ?_ | refine S2 ?_ | refine S4 ?_ | refine S5 ?_ | refine S6 ?_ | refine S7 ?_ | refine S8 ?_ | refine S9 ?_ | refine S10 ?_ | refine S11 ?_ | refine S13 ?_ | refine S15 ?_ | refine S16 ?_ | refine S19 ?_ | refine S20 ?_ | refine S21 ?_ | refine S22 ?_ | refine S30 ?_ | refine S37 ?_ | refine S38 ?_ | refine S40 ?_ | refine S41 ?_ | refine S49 ?_ | refine S63 ?_)
    refine Scall (args := [pint m, pli (prsL m s)]) kt ?_
    repeat (first | refine S0 ?_ | refine S1 ?_ | refine S2 ?_ | refine S4 ?_ | refine S5 ?_ | refine S6 ?_ | refine S7 ?_ | refine S8 ?_ | refine S9 ?_ | refine S10 ?_ | refine S11 ?_ | refine S13 ?_ | refine S15 ?_ | refine S16 ?_ | refine S19 ?_ | refine S20 ?_ | refine S21 ?_ | refine S22 ?_ | refine S30 ?_ | refine S37 ?_ | refine S38 ?_ | refine S40 ?_ | refine S41 ?_ | refine S49 ?_ | refine S63 ?_)
    refine AW.binf EVx EVx (str_neq _ _ _ _ _) ?_
    by_cases he : txt m (prsL m s) = s
    · rw [if_pos he] at e1
      rw [show psL m s = prsL m s from if_pos e1, e1, decide_eq_true he]
      repeat (first | refine S0 ?_ | refine S1 ?_ | refine S2 ?_ | refine S4 ?_ | refine S5 ?_ | refine S6 ?_ | refine S7 ?_ | refine S8 ?_ | refine S9 ?_ | refine S10 ?_ | refine S11 ?_ | refine S13 ?_ | refine S15 ?_ | refine S16 ?_ | refine S19 ?_ | refine S20 ?_ | refine S21 ?_ | refine S22 ?_ | refine S30 ?_ | refine S37 ?_ | refine S38 ?_ | refine S40 ?_ | refine S41 ?_ | refine S49 ?_ | refine S63 ?_)
      refine Scall (args := [pli (prsL m s)]) (clip_s (prsL m s)) ?_
      repeat (first | refine S0 ?_ | refine S1 ?_ | refine S2 ?_ | refine S4 ?_ | refine S5 ?_ | refine S6 ?_ | refine S7 ?_ | refine S8 ?_ | refine S9 ?_ | refine S10 ?_ | refine S11 ?_ | refine S13 ?_ | refine S15 ?_ | refine S16 ?_ | refine S19 ?_ | refine S20 ?_ | refine S21 ?_ | refine S22 ?_ | refine S30 ?_ | refine S37 ?_ | refine S38 ?_ | refine S40 ?_ | refine S41 ?_ | refine S49 ?_ | refine S63 ?_)
      exact ⟨.inr rfl, Fz.pair (Fz.clipI _) (.cl rfl)⟩
    · rw [if_neg he] at e1
      rw [show psL m s = [] from if_neg (by rw [e1]; decide), e1, decide_eq_false he]
      repeat (first | refine S0 ?_ | refine S1 ?_ | refine S2 ?_ | refine S4 ?_ | refine S5 ?_ | refine S6 ?_ | refine S7 ?_ | refine S8 ?_ | refine S9 ?_ | refine S10 ?_ | refine S11 ?_ | refine S13 ?_ | refine S15 ?_ | refine S16 ?_ | refine S19 ?_ | refine S20 ?_ | refine S21 ?_ | refine S22 ?_ | refine S30 ?_ | refine S37 ?_ | refine S38 ?_ | refine S40 ?_ | refine S41 ?_ | refine S49 ?_ | refine S63 ?_)
      exact ⟨.inr rfl, Fz.pair (.nrm rfl) (.cl rfl)⟩
end Go.Proofs.YtkmkcbkfakoomaaDoor
