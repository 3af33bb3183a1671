/- Facts and contracts that the claim uses. No condition of its own. -/
import Derived.Test.YtkmkcbkfakoomaaDoorGRingTextsBX
set_option linter.unusedVariables false
set_option linter.unusedSimpArgs false
namespace Go.Proofs.YtkmkcbkfakoomaaDoor
open Go.RowKit
theorem V.bforget {ρ : Pl} {Z : Nat → Prop} {w : World} {a : Act} {t : Nat → PV} (h : ∀ x, V ρ Z w (t x) (a.tmps.getD x undef)) : ∀ {sl : List (Nat × PV)}, allS sl t → ∀ x, V ρ Z w (updS sl jk x) (a.tmps.getD x undef)
  | [], _, x => .junk _
  | (d, v) :: l, hs, x => by
    show V ρ Z w (upd (updS l jk) d v x) _
    unfold upd
    split
    · rename_i e; subst e; rw [← hs.1]; exact h x
    · exact V.bforget h hs.2 x
theorem Rel.bforget {E : PV → Value → Prop} {w0 : World} {Z0 : Nat → Prop} {ρ : Pl} {n : Nat} {s : AS} {a : Act} {w : World} (R : Rel E w0 Z0 ρ n s a w) {sl : List (Nat × PV)} (h : allS sl s.tmps) : Rel E w0 Z0 ρ n ⟨updS sl jk, s.hp⟩ a w :=
  ⟨R.defers, R.size, V.bforget R.tmps h, R.heap, R.mem⟩
set_option maxHeartbeats 4000000 in
set_option maxRecDepth 100000 in
theorem noted1_s {n c : Nat} (hn : n ≤ 7) (hc : c < 64) (w : List UInt8) : SC Tryd.prog 23 [pint c, .lptr [pint n], .lptr [pstr w]] (.sc (.bool (decide (wrt n c = w)))) := by
  have kc := called_s (n := n) hn (c := c) hc
  refine SC.go { pc := [5, 8] } tok mixed Tryd.func23 rfl rfl Tryd.ntmps23 rfl rfl (by kernel_rfl) ?_
  first | simp only [updS] | simp only [updL, Nat.reduceAdd]
  repeat (first | refine S0 ?_ | refine S1 ?_ | refine S2 ?_ | refine S3 ?_ | refine S7 ?_ | refine S8 ?_ | refine S19 ?_ | refine S20 ?_ | refine S26 ?_)
  refine Scall (args := [pint n, pint c]) kc ?_
  repeat (first | refine S0 ?_ | refine S1 ?_ | refine S2 ?_ | refine S3 ?_ | refine S7 ?_ | refine S8 ?_ | refine S19 ?_ | refine S20 ?_ | refine S26 ?_)
  refine AW.binf EVx EVx (str_eql _ _ _ _ _) ?_
  repeat (first | refine S0 ?_ | refine S1 ?_ | refine S2 ?_ | refine S3 ?_ | refine S7 ?_ | refine S8 ?_ | refine S19 ?_ | refine S20 ?_ | refine S26 ?_)
  exact ⟨.inr rfl, .cl rfl⟩
theorem idx_c {n : Nat} (h1 : 1 ≤ n) (hn : n ≤ 7) (w : List UInt8) : (fndC n w = none ∧ SC Tryd.prog 22 [pli (chgL n), .clo 23 [.lptr [pint n], .lptr [pstr w]]] (pint (-1))) ∨ ∃ (m : Nat) (c : Int), fndC n w = some c ∧ m < (chgL n).length ∧ (chgL n).getD m 0 = c ∧ SC Tryd.prog 22 [pli (chgL n), .clo 23 [.lptr [pint n], .lptr [pstr w]]] (pint m) := by
  have hl := chgL_len ⟨n, by omega⟩
  simp only at hl
  have hcl : PV.cl.clL [.lptr [pint n], .lptr [pstr w]] = true := rfl
  have hk : ∀ k, k < (chgL n).length → SC Tryd.prog 23 (pint ((chgL n).getD k 0) :: [.lptr [pint n], .lptr [pstr w]]) (.sc (.bool (decide (wrt n ((chgL n).getD k 0).toNat = w)))) := fun k hk => by
    have hb := chgL_bd ⟨n, by omega⟩ ((chgL n).getD k 0) (by rw [getD_lt 0 hk]; exact List.getElem_mem hk)
    have := noted1_s (n := n) (c := ((chgL n).getD k 0).toNat) hn (by omega) w
    rwa [show ((((chgL n).getD k 0).toNat : Nat) : Int) = (chgL n).getD k 0 by omega] at this
  by_cases hex : ∃ k, k < (chgL n).length ∧ wrt n ((chgL n).getD k 0).toNat = w
  · right
    obtain ⟨m, ⟨hm, hmw⟩, hmin⟩ := exists_least _ hex
    refine ⟨m, (chgL n).getD m 0, ?_, hm, rfl, indexFunc_some (by omega) hcl hm (fun k hk2 => ?_) ?_⟩
    · obtain ⟨g1, _, _⟩ := chgL_bd ⟨n, by omega⟩ ((chgL n).getD m 0) (by rw [getD_lt 0 hm]; exact List.getElem_mem hm)
      have := fndC_wrt h1 hn ((mem_chg h1 hn ((chgL n).getD m 0)).1 (by rw [getD_lt 0 hm]; exact List.getElem_mem hm))
      rwa [hmw] at this
    · have := hk k (by omega)
      rwa [decide_eq_false (fun e => by have := hmin k ⟨by omega, e⟩; omega)] at this
    · have := hk m hm
      rwa [decide_eq_true hmw] at this
  · left
    refine ⟨?_, indexFunc_none (by omega) hcl (fun k hk2 => ?_)⟩
    · unfold fndC
      rw [List.find?_eq_none]
      intro c hc
      obtain ⟨k, hk2, rfl⟩ := List.getElem_of_mem hc
      simp only [decide_eq_true_eq]
      intro e
      exact hex ⟨k, hk2, by rw [getD_lt 0 hk2]; exact e⟩
    · have := hk k hk2
      rwa [decide_eq_false (fun e => hex ⟨k, hk2, e⟩)] at this
theorem fndW_app (n : Nat) : ∀ a b : List (List UInt8), fndW n (a ++ b) = match fndW n a with | none => none | some x => (fndW n b).map (x ++ ·)
  | [], b => by
    show fndW n b = (fndW n b).map ([] ++ ·)
    cases fndW n b <;> simp
  | w :: a, b => by
    show (match fndC n w with | none => none | some c => (fndW n (a ++ b)).map (c :: ·)) = match (match fndC n w with | none => none | some c => (fndW n a).map (c :: ·)) with | none => none | some x => (fndW n b).map (x ++ ·)
    cases fndC n w with
    | none => rfl
    | some c =>
      simp only
      rw [fndW_app n a b]
      cases fndW n a with
      | none => rfl
      | some x => cases fndW n b <;> simp
theorem list_step {M : Hn} {n m : Nat} {ops : Array Oper} {l : List Oper} {o : Oper} {s s' : AS} {Q : Exit → Act → World → Prop} {w0 : World} {Z0 : Nat → Prop} {ρ : Pl} {a : Act} {w : World} (hd : dstOk n [o] = true) (R : Rel E1 w0 Z0 ρ n s a w)
    (h1 : AX Tryd.prog TT M (fun _ => .wr) ops [o] s (fun x => x = s')) (hk : ∀ ρ' a' w', Rel E1 w0 Z0 ρ' n s' a' w' → wpListIn Fence.wide m Tryd.prog ops Q l a' w') : wpListIn Fence.wide m Tryd.prog ops Q (o :: l) a w := by
  obtain ⟨s2, k1, k2⟩ := AX_sound (n := n) tok [o] s hd h1
  have k2' : s2 = s' := k2
  subst k2'
  refine wpListIn_step (fun K hK => ?_)
  exact k1.soundIn okf_wide R (fun ρ' a' w' R' => hK _ _ (hk ρ' a' w' R'))
theorem spl_len (c : UInt8) : ∀ l : List UInt8, (spl c l).length = l.count c + 1
  | [] => rfl
  | b :: l => by
    have ih := spl_len c l
    unfold spl
    by_cases e : b = c
    · subst e; rw [if_pos rfl, List.length_cons, ih, List.count_cons_self]
    · rw [if_neg e, List.count_cons_of_ne (fun h => e h)]
      cases hs : spl c l with
      | nil => exact absurd hs (spl_ne c l)
      | cons h t => rw [hs] at ih; simpa using ih
theorem replace_x {s : List UInt8} {w : World} {m0 : Int} (hl : s.length ≤ 5040) (hm : w.cell? ⟨0, 0, none⟩ = some (.int .i64 m0)) :
    Calls Tryd.prog 21 #[.string (bsB s), .string (bsB [120]), .string (bsB [46, 120, 46])] w fun e w' => e = .returned (.string (bsB (apX s))) ∧ Below w.heap.size w w' := by
  have hc : Lib.countB (bsB s) (bsB [120]) = s.count 120 := by
    show Lib.count (bsB s).data.toList (bsB [120]).data.toList = _
    rw [bsB_list, bsB_list, Lib.count_one]
  have hcl : s.count 120 ≤ s.length := List.count_le_length
  refine (Tryd.strings_ReplaceAll (bsB s) (bsB [120]) (bsB [46, 120, 46]) m0 w (by rw [bsB_size]; omega) hm (by rw [bsB_size]; decide) (by rw [hc, bsB_size, bsB_size]; simp; omega)).mono ?_
  rintro e w' ⟨h1, h2⟩
  refine ⟨?_, h2⟩
  rw [h1]
  have : Lib.replaceAll (bsB s).data.toList (bsB [120]).data.toList (bsB [46, 120, 46]).data.toList = apX s := by
    rw [bsB_list, bsB_list, bsB_list]
    unfold Lib.replaceAll Lib.replace
    rw [if_neg (by decide)]
    unfold Lib.replaceNum
    rw [if_pos (.inl (by decide)), Lib.count_one, replaceK_map 120 _ s.length s (Nat.le_refl _)]
    rfl
  rw [this]
  rfl
theorem apX_len (s : List UInt8) : (apX s).length ≤ 3 * s.length := by
  unfold apX
  induction s with
  | nil => simp
  | cons b s ih =>
    rw [List.flatMap_cons, List.length_append, List.length_cons]
    split <;> simp only [List.length_cons, List.length_nil] <;> omega
theorem split_dot {s : List UInt8} {w : World} {m0 : Int} (hl : s.length ≤ 20000) (hm : w.cell? ⟨0, 0, none⟩ = some (.int .i64 m0)) :
    Calls Tryd.prog 20 #[.string (bsB s), .string (bsB [46])] w fun e w' => e = .returned (.slice (some ⟨w.heap.size, 0, none⟩) (spl 46 s).length (spl 46 s).length) ∧ w' = w.alloc (.cells ((spl 46 s).map fun x => Value.string (bsB x)).toArray 9) := by
  have hc : Lib.countB (bsB s) (bsB [46]) = s.count 46 := by
    show Lib.count (bsB s).data.toList (bsB [46]).data.toList = _
    rw [bsB_list, bsB_list, Lib.count_one]
  refine (Tryd.strings_Split (bsB s) (bsB [46]) m0 w (by rw [bsB_size]; omega) hm (by rw [bsB_size]; decide)).mono ?_
  rintro e w' ⟨h1, h2⟩
  have hd := Lib.splitB_data (bsB [46]) 0 (s.count 46) (bsB s)
  rw [bsB_list, bsB_list, splitK_spl 46 s.length s (Nat.le_refl _)] at hd
  have hb : Lib.splitB (bsB [46]) 0 (s.count 46) (bsB s) = (spl 46 s).map bsB := by
    rw [← hd, List.map_map]
    refine (List.map_id' _).symm.trans (List.map_congr_left (fun x _ => ?_))
    apply ByteArray.ext
    simp [bsB]
  rw [hc] at h1 h2
  rw [hb, List.map_map] at h2
  rw [spl_len]
  exact ⟨h1, h2⟩
theorem psE_ok {n : Nat} (h1 : 1 ≤ n) (hn : n ≤ 7) {s : List UInt8} (hl : s.length ≤ 5040) : psE n s = if txt n (prsL n s) = s then 0 else 8 := by
  unfold psE
  rw [if_neg (by omega), if_neg (by omega), Int.toNat_natCast]
theorem noted_none {n : Nat} (h1 : 1 ≤ n) (hn : n ≤ 7) {s : List UInt8} (hl : s.length ≤ 5040) (h : fndW n (tkn (apX s)) = none) : psL n s = [] ∧ psE n s = 8 := by
  have e := noted_eq h1 hn s
  rw [h] at e
  simp only at e
  have hE := psE_ok h1 hn hl
  by_cases ht : txt n (prsL n s) = s
  · rw [if_pos ht] at e
    exact absurd (congrArg Prod.snd e) (by simp)
  · rw [if_neg ht] at hE
    exact ⟨if_neg (by rw [hE]; decide), hE⟩
theorem noted_some {n : Nat} (h1 : 1 ≤ n) (hn : n ≤ 7) {s : List UInt8} (hl : s.length ≤ 5040) {out : List Int} (h : fndW n (tkn (apX s)) = some out) : (txt n out = s → psL n s = out ∧ psE n s = 0) ∧ (txt n out ≠ s → psL n s = [] ∧ psE n s = 8) := by
  have e := noted_eq h1 hn s
  rw [h] at e
  simp only at e
  have hE := psE_ok h1 hn hl
  by_cases ht : txt n (prsL n s) = s
  · rw [if_pos ht] at e hE
    refine ⟨fun h2 => ?_, fun h2 => ?_⟩
    · rw [if_pos h2] at e
      have : out = prsL n s := by injection e
      exact ⟨by unfold psL; rw [if_pos hE, Int.toNat_natCast, this], hE⟩
    · rw [if_neg h2] at e
      exact absurd (congrArg Prod.snd e) (by simp)
  · rw [if_neg ht] at e hE
    refine ⟨fun h2 => ?_, fun h2 => ⟨if_neg (by rw [hE]; decide), hE⟩⟩
    rw [if_pos h2] at e
    exact absurd (congrArg Prod.snd e) (by simp)
theorem V.toNone {ρ : Pl} {Z : Nat → Prop} {w : World} {v u : Value} (h : V ρ Z w (.sc v) u) : V (fun _ => none) Z w (.sc v) u := by rw [h.sc_inv]; exact .sc _
theorem ret_end {fn : Func} {n : Nat} {s : AS} {r : PV} {w0 : World} {Z0 : Nat → Prop} {ρ : Pl} {a : Act} {w : World} (R : Rel E1 w0 Z0 ρ n s a w) (hf : FzRes TT s fn.results.toList r) :
    bodyPostM Fence.wide 9 Tryd.prog fn (fun e w' => ∃ u, e = .returned u ∧ V (fun _ => none) Z0 w' r u ∧ Below w0.heap.size w0 w') .ret a w := by
  obtain ⟨u, q1, q2⟩ := FzRes.out tok R hf
  have hd := R.defers
  have hb := R.heap.below
  obtain ⟨ts, ds⟩ := a
  simp only at hd
  subst hd
  exact ⟨u, q1, u, rfl, q2, hb⟩
set_option maxHeartbeats 16000000 in
set_option maxRecDepth 100000 in
theorem noted_c {n : Nat} (h1 : 1 ≤ n) (hn : n ≤ 7) {s : List UInt8} (hl : s.length ≤ 5040) {Z : Nat → Prop} {w : World} {vs : Array Value} (hz : ∀ b, Z b → b < w.heap.size) (hvs : vs.size = 2) (hv : ∀ i, i < 2 → V (fun _ => none) Z w ([pint n, pstr s].getD i .junk) (vs.getD i undef)) {m0 : Int} (hm : w.cell? ⟨0, 0, none⟩ = some (.int .i64 m0)) :
    Calls Tryd.prog 8 vs w fun e w' => ∃ u, e = .returned u ∧ V (fun _ => none) Z w' (.tup [pli (psL n s), pint (psE n s)]) u ∧ Below w.heap.size w w' := by
  have k1 : SC Tryd.prog 15 [pint n] (pli (chgL n)) := (changes_o n (by omega)).sc (by simp)
  have h0 : 0 < w.heap.size := by
    apply Classical.byContradiction; intro hc
    have : w.heap.size = 0 := by omega
    simp [World.cell?, Array.getElem?_eq_none (show w.heap.size ≤ 0 by omega)] at hm
  refine Calls.ofB (args := [pint n, pstr s]) Tryd.func8 rfl rfl hz hvs hv (fun a R => ?_)
  refine CW.bseq (M := {}) (by kernel_rfl) R (N := fun s' => allS [(1, pstr s), (2, .lptr [pint n])] s'.tmps ∧ s'.hp = H0) ?_ ?_
  · first | simp only [updS] | simp only [updL, Nat.reduceAdd]
    repeat (first | refine S0 ?_ | refine S1 ?_ | refine S2 ?_ | refine S4 ?_ | refine S5 ?_ | refine S6 ?_ | refine S7 ?_ | refine S8 ?_ | refine S9 ?_ | refine S10 ?_ | refine S11 ?_ | refine S12 ?_ | refine S13 ?_ | refine S15 ?_ | refine S16 ?_ | refine S19 ?_ | refine S20 ?_ | refine S21 ?_ | refine S22 ?_ | refine S23 ?_ | refine S25 ?_ | refine S26 ?_ | refine S30 ?_ | refine S37 ?_ | refine S41 ?_ | refine S46 ?_ | refine S49 ?_ | refine S56 ?_ | refine S63 ?_ | refine S65 ?_ | refine S68 ?_ | refine S73 ?_)
    exact ⟨rfl, SLx, rfl⟩
  rintro ρ s' a1 w1 R ⟨hs, hh⟩
  have R := R.bforget hs
  rw [hh] at R
  clear hs hh
  refine CW.bseq (M := {}) (by kernel_rfl) R (N := fun s' => allS [(1, pstr s), (2, .lptr [pint n])] s'.tmps ∧ s'.hp = H0) ?_ ?_
  · first | simp only [updS] | simp only [updL, Nat.reduceAdd]
    repeat (first | refine S0 ?_ | refine S1 ?_ | refine S2 ?_ | refine S4 ?_ | refine S5 ?_ | refine S6 ?_ | refine S7 ?_ | refine S8 ?_ | refine S9 ?_ | refine S10 ?_ | refine S11 ?_ | refine S12 ?_ | refine S13 ?_ | refine S15 ?_ | refine S16 ?_ | refine S19 ?_ | refine S20 ?_ | refine S21 ?_ | refine S22 ?_ | refine S23 ?_ | refine S25 ?_ | refine S26 ?_ | refine S30 ?_ | refine S37 ?_ | refine S41 ?_ | refine S46 ?_ | refine S49 ?_ | refine S56 ?_ | refine S63 ?_ | refine S65 ?_ | refine S68 ?_ | refine S73 ?_)
    exact ⟨rfl, SLx, rfl⟩
  rintro ρ s' a1 w1 R ⟨hs, hh⟩
  have R := R.bforget hs
  rw [hh] at R
  clear hs hh
  refine CW.bseq (M := {}) (by kernel_rfl) R (N := fun s' => allS [(1, pstr s), (2, .lptr [pint n])] s'.tmps ∧ s'.hp = H0) ?_ ?_
  · first | simp only [updS] | simp only [updL, Nat.reduceAdd]
    repeat (first | refine S0 ?_ | refine S1 ?_ | refine S2 ?_ | refine S4 ?_ | refine S5 ?_ | refine S6 ?_ | refine S7 ?_ | refine S8 ?_ | refine S9 ?_ | refine S10 ?_ | refine S11 ?_ | refine S12 ?_ | refine S13 ?_ | refine S15 ?_ | refine S16 ?_ | refine S19 ?_ | refine S20 ?_ | refine S21 ?_ | refine S22 ?_ | refine S23 ?_ | refine S25 ?_ | refine S26 ?_ | refine S30 ?_ | refine S37 ?_ | refine S41 ?_ | refine S46 ?_ | refine S49 ?_ | refine S56 ?_ | refine S63 ?_ | refine S65 ?_ | refine S68 ?_ | refine S73 ?_)
    refine AW.lenS rfl EVx bt_str ?_
    repeat (first | refine S0 ?_ | refine S1 ?_ | refine S2 ?_ | refine S4 ?_ | refine S5 ?_ | refine S6 ?_ | refine S7 ?_ | refine S8 ?_ | refine S9 ?_ | refine S10 ?_ | refine S11 ?_ | refine S12 ?_ | refine S13 ?_ | refine S15 ?_ | refine S16 ?_ | refine S19 ?_ | refine S20 ?_ | refine S21 ?_ | refine S22 ?_ | refine S23 ?_ | refine S25 ?_ | refine S26 ?_ | refine S30 ?_ | refine S37 ?_ | refine S41 ?_ | refine S46 ?_ | refine S49 ?_ | refine S56 ?_ | refine S63 ?_ | refine S65 ?_ | refine S68 ?_ | refine S73 ?_)
    exact ⟨rfl, SLx, rfl⟩
  rintro ρ s' a1 w1 R ⟨hs, hh⟩
  have R := R.bforget hs
  rw [hh] at R
  clear hs hh
  refine CW.bseq (M := {}) (by kernel_rfl) R (N := fun s' => allS [(1, pstr s), (2, .lptr [pint n]), (6, .lst true 0 0 [])] s'.tmps ∧ s'.hp = H0) ?_ ?_
  · first | simp only [updS] | simp only [updL, Nat.reduceAdd]
    repeat (first | refine S0 ?_ | refine S1 ?_ | refine S2 ?_ | refine S4 ?_ | refine S5 ?_ | refine S6 ?_ | refine S7 ?_ | refine S8 ?_ | refine S9 ?_ | refine S10 ?_ | refine S11 ?_ | refine S12 ?_ | refine S13 ?_ | refine S15 ?_ | refine S16 ?_ | refine S19 ?_ | refine S20 ?_ | refine S21 ?_ | refine S22 ?_ | refine S23 ?_ | refine S25 ?_ | refine S26 ?_ | refine S30 ?_ | refine S37 ?_ | refine S41 ?_ | refine S46 ?_ | refine S49 ?_ | refine S56 ?_ | refine S63 ?_ | refine S65 ?_ | refine S68 ?_ | refine S73 ?_)
    exact ⟨rfl, SLx, rfl⟩
  rintro ρ s' a1 w1 R ⟨hs, hh⟩
  have R := R.bforget hs
  rw [hh] at R
  clear hs hh
  refine CW.bseq (M := {}) (by kernel_rfl) R (N := fun s' => allS [(1, pstr s), (2, .lptr [pint n]), (6, .lst true 0 0 []), (7, pli (chgL n))] s'.tmps ∧ s'.hp = H0) ?_ ?_
  · first | simp only [updS] | simp only [updL, Nat.reduceAdd]
    repeat (first | refine S0 ?_ | refine S1 ?_ | refine S2 ?_ | refine S4 ?_ | refine S5 ?_ | refine S6 ?_ | refine S7 ?_ | refine S8 ?_ | refine S9 ?_ | refine S10 ?_ | refine S11 ?_ | refine S12 ?_ | refine S13 ?_ | refine S15 ?_ | refine S16 ?_ | refine S19 ?_ | refine S20 ?_ | refine S21 ?_ | refine S22 ?_ | refine S23 ?_ | refine S25 ?_ | refine S26 ?_ | refine S30 ?_ | refine S37 ?_ | refine S41 ?_ | refine S46 ?_ | refine S49 ?_ | refine S56 ?_ | refine S63 ?_ | refine S65 ?_ | refine S68 ?_ | refine S73 ?_)
    refine Scall (args := [pint n]) k1 ?_
    repeat (first | refine S0 ?_ | refine S1 ?_ | refine S2 ?_ | refine S4 ?_ | refine S5 ?_ | refine S6 ?_ | refine S7 ?_ | refine S8 ?_ | refine S9 ?_ | refine S10 ?_ | refine S11 ?_ | refine S12 ?_ | refine S13 ?_ | refine S15 ?_ | refine S16 ?_ | refine S19 ?_ | refine S20 ?_ | refine S21 ?_ | refine S22 ?_ | refine S23 ?_ | refine S25 ?_ | refine S26 ?_ | refine S30 ?_ | refine S37 ?_ | refine S41 ?_ | refine S46 ?_ | refine S49 ?_ | refine S56 ?_ | refine S63 ?_ | refine S65 ?_ | refine S68 ?_ | refine S73 ?_)
    exact ⟨rfl, SLx, rfl⟩
  rintro ρ s' a1 w1 R ⟨hs, hh⟩
  have R := R.bforget hs
  rw [hh] at R
  clear hs hh
  refine wpIn_seq (wpIn_seq (wpIn_region_list ?_))
  refine list_step (M := {}) (by kernel_rfl) R (AX.move rfl (AX.nil rfl)) (fun ρ a1 w1 R => ?_)
  have hm1 : w1.cell? ⟨0, 0, none⟩ = some (.int .i64 m0) := (R.heap.below.cell (p := ⟨0, 0, none⟩) h0).trans hm
  refine list_call (r := pstr (apX s)) (by decide) R (callable Tryd.func21 rfl rfl) (fun Z1 vs1 hz1 hvs1 hv1 => ?_) (fun a2 w2 R _ => ?_)
  · have e0 := (show V (fun _ => none) Z1 w1 (pstr s) (vs1.getD 0 undef) from V.toNone (hv1 0 _ rfl)).sc_inv
    have e1 := (show V (fun _ => none) Z1 w1 (pstr [120]) (vs1.getD 1 undef) from V.toNone (hv1 1 _ rfl)).sc_inv
    have e2 := (show V (fun _ => none) Z1 w1 (pstr [46, 120, 46]) (vs1.getD 2 undef) from V.toNone (hv1 2 _ rfl)).sc_inv
    obtain rfl : vs1 = [Value.string (bsB s), .string (bsB [120]), .string (bsB [46, 120, 46])].toArray := vs_of (by simpa using hvs1) (fun i hi => by
      match i, hi with
      | 0, _ => simpa using e0
      | 1, _ => simpa using e1
      | 2, _ => simpa using e2
      | i + 3, h => simp at h; omega)
    exact (replace_x hl hm1).mono fun e w' ⟨g1, g2⟩ => ⟨_, g1, .sc _, g2⟩
  have hm2 : w2.cell? ⟨0, 0, none⟩ = some (.int .i64 m0) := (R.heap.below.cell (p := ⟨0, 0, none⟩) h0).trans hm
  have hxl := apX_len s
  obtain ⟨P, hP⟩ : ∃ P, P = spl 46 (apX s) := ⟨_, rfl⟩
  have hPl : P.length ≤ 20000 := by
    rw [hP, spl_len]
    have : (apX s).count 46 ≤ (apX s).length := List.count_le_length
    omega
  refine list_call (r := .lst true 1 P.length (P.map pstr)) (by decide) R (callable Tryd.func20 rfl rfl) (fun Z1 vs1 hz1 hvs1 hv1 => ?_) (fun a3 w3 R _ => ?_)
  · have e0 := (show V (fun _ => none) Z1 w2 (pstr (apX s)) (vs1.getD 0 undef) from V.toNone (hv1 0 _ rfl)).sc_inv
    have e1 := (show V (fun _ => none) Z1 w2 (pstr [46]) (vs1.getD 1 undef) from V.toNone (hv1 1 _ rfl)).sc_inv
    obtain rfl : vs1 = [Value.string (bsB (apX s)), .string (bsB [46])].toArray := vs_of (by simpa using hvs1) (fun i hi => by
      match i, hi with
      | 0, _ => simpa using e0
      | 1, _ => simpa using e1
      | i + 2, h => simp at h; omega)
    refine (split_dot (by omega) hm2).mono ?_
    rintro e w' ⟨rfl, rfl⟩
    rw [← hP]
    refine ⟨_, rfl, .lst true 1 P.length P.length (P.map pstr) _ (fun i => Value.string (bsB (P.getD i []))) (Nat.le_refl _) (fun _ => rfl) (by unfold maxLen; omega) (by simp) (fun _ => ⟨w2.heap.size, 0, rfl, (fun hZ => by have := hz1 _ hZ; omega), by simp, fun i hi => ?_⟩) (fun i hi => ?_), (Below.refl _ _).alloc (Nat.le_refl _) _⟩
    · have hi' : i < P.length := by simpa using hi
      rw [Lib.cell_of_heap (heap_alloc_new w2 _)]
      simp [hi', List.getD]
    · have hi' : i < P.length := by simpa using hi
      have : (P.map pstr).getD i .junk = pstr (P.getD i []) := by simp [List.getD, hi']
      rw [this]
      exact .sc _
  refine list_go (M := {}) (by kernel_rfl) R (Kx := fun s' => allS [(1, pstr s), (2, .lptr [pint n]), (6, .lst true 0 0 []), (7, pli (chgL n)), (24, .lst true 1 P.length (P.map pstr)), (25, pint P.length), (26, pint (0 : Nat))] s'.tmps ∧ s'.hp = H0) ?_ (fun ρ s' a4 w4 R ⟨hs, hh⟩ => ?_)
  · first | simp only [updS] | simp only [updL, Nat.reduceAdd]
    repeat (first | refine S0 ?_ | refine S1 ?_ | refine S2 ?_ | refine S4 ?_ | refine S5 ?_ | refine S6 ?_ | refine S7 ?_ | refine S8 ?_ | refine S9 ?_ | refine S10 ?_ | refine S11 ?_ | refine S12 ?_ | refine S13 ?_ | refine S15 ?_ | refine S16 ?_ | refine S19 ?_ | refine S20 ?_ | refine S21 ?_ | refine S22 ?_ | refine S23 ?_ | refine S25 ?_ | refine S26 ?_ | refine S30 ?_ | refine S37 ?_ | refine S41 ?_ | refine S46 ?_ | refine S49 ?_ | refine S56 ?_ | refine S63 ?_ | refine S65 ?_ | refine S68 ?_ | refine S73 ?_)
    exact ⟨SLx, rfl⟩
  have R := R.bforget hs
  rw [hh] at R
  clear hs hh
  have hnn := noted_none (n := n) h1 hn hl
  have hns := fun out => noted_some (n := n) h1 hn hl (out := out)
  rw [show tkn (apX s) = P.filter (· ≠ []) by rw [hP]; rfl] at hnn
  rw [show tkn (apX s) = P.filter (· ≠ []) by rw [hP]; rfl] at hns
  refine wpIn_mono (CW.out (M := {}) (Q := fun e s' => (e = .normal ∧ ∃ (T : Nat) (out : List Int), fndW n (P.filter (· ≠ [])) = some out ∧ out.length ≤ 20000 ∧ allS [(1, pstr s), (2, .lptr [pint n]), (6, .ref T 0 1 out.length)] s'.tmps ∧ s'.hp.blk T = some (ints out) ∧ T % 2 = 0) ∨ (e = .ret ∧ fndW n (P.filter (· ≠ [])) = none ∧ FzRes TT s' Tryd.f8.results.toList (.tup [pli [], pint 8]))) ?_ tok mixed (by kernel_rfl) E1 w Z ρ a4 w4 R Fence.wide okf_wide 9) ?_
  · first | simp only [updS] | simp only [updL, Nat.reduceAdd]
    refine CW.own 6 1 rfl ?_
    repeat (first | refine S0 ?_ | refine S1 ?_ | refine S2 ?_ | refine S4 ?_ | refine S5 ?_ | refine S6 ?_ | refine S7 ?_ | refine S8 ?_ | refine S9 ?_ | refine S10 ?_ | refine S11 ?_ | refine S12 ?_ | refine S13 ?_ | refine S15 ?_ | refine S16 ?_ | refine S19 ?_ | refine S20 ?_ | refine S21 ?_ | refine S22 ?_ | refine S23 ?_ | refine S25 ?_ | refine S26 ?_ | refine S30 ?_ | refine S37 ?_ | refine S41 ?_ | refine S46 ?_ | refine S49 ?_ | refine S56 ?_ | refine S63 ?_ | refine S65 ?_ | refine S68 ?_ | refine S73 ?_)
    refine CW.loopS (fun i : Nat × Nat × List Int => i.1 ≤ P.length ∧ i.2.1 % 2 = 0 ∧ fndW n ((P.take i.1).filter (· ≠ [])) = some i.2.2 ∧ i.2.2.length ≤ i.1) (fun i => [(1, pstr s), (2, .lptr [pint n]), (6, .ref i.2.1 0 1 i.2.2.length), (7, pli (chgL n)), (24, .lst true 1 P.length (P.map pstr)), (25, pint P.length), (26, pint i.1)])
      (fun i h => h.blk i.2.1 = some (ints i.2.2) ∧ i.2.1 < 2 * h.next) (fun i => P.length - i.1) (0, 0, []) ⟨⟨Nat.zero_le _, rfl, rfl, Nat.le_refl _⟩, SLx, HBx, (by first | omega | (simp only [HP.tokF, HP.tokT, HP.next_add, HP.next_set, HP.next_kill, HP.next_H0, HP.next_addS, HP.next_setS, HP.next_killS, HP.next_put, HP.next_bump, HP.next_putS]; omega))⟩ ?_
    rintro ⟨i, T, out⟩ t hp ⟨hi, hT2, hfo, hol⟩ ⟨hB, hTl⟩
    simp only at hi hT2 hfo hol hB hTl
    first | simp only [updS] | simp only [updL, Nat.reduceAdd]
    by_cases hi2 : i < P.length
    · have hft : (P.take (i + 1)).filter (· ≠ []) = (P.take i).filter (· ≠ []) ++ (if P.getD i [] = [] then [] else [P.getD i []]) := by
        rw [List.take_succ_eq_append_getElem hi2, List.filter_append, getD_lt [] hi2]
        congr 1
        by_cases e : P[i] = []
        · simp [e]
        · simp [e]
      have hall : P.filter (· ≠ []) = (P.take i).filter (· ≠ []) ++ ((if P.getD i [] = [] then [] else [P.getD i []]) ++ (P.drop (i + 1)).filter (· ≠ [])) := by
        rw [← List.append_assoc, ← hft, ← List.filter_append, List.take_append_drop]
      repeat (first | refine S0 ?_ | refine S1 ?_ | refine S2 ?_ | refine S4 ?_ | refine S5 ?_ | refine S6 ?_ | refine S7 ?_ | refine S8 ?_ | refine S9 ?_ | refine S10 ?_ | refine S11 ?_ | refine S12 ?_ | refine S13 ?_ | refine S15 ?_ | refine S16 ?_ | refine S19 ?_ | refine S20 ?_ | refine S21 ?_ | refine S22 ?_ | refine S23 ?_ | refine S25 ?_ | refine S26 ?_ | refine S30 ?_ | refine S37 ?_ | refine S41 ?_ | refine S46 ?_ | refine S49 ?_ | refine S56 ?_ | refine S63 ?_ | refine S65 ?_ | refine S68 ?_ | refine S73 ?_)
      generalize P.getD i [] = p at *
      refine AW.binf (vy := .string (bsB [])) EVx EVx (str_eql _ [] _ _ _) ?_
      by_cases hp0 : p = []
      · rw [if_pos hp0, List.append_nil] at hft
        rw [decide_eq_true hp0]
        repeat (first | refine S0 ?_ | refine S1 ?_ | refine S2 ?_ | refine S4 ?_ | refine S5 ?_ | refine S6 ?_ | refine S7 ?_ | refine S8 ?_ | refine S9 ?_ | refine S10 ?_ | refine S11 ?_ | refine S12 ?_ | refine S13 ?_ | refine S15 ?_ | refine S16 ?_ | refine S19 ?_ | refine S20 ?_ | refine S21 ?_ | refine S22 ?_ | refine S23 ?_ | refine S25 ?_ | refine S26 ?_ | refine S30 ?_ | refine S37 ?_ | refine S41 ?_ | refine S46 ?_ | refine S49 ?_ | refine S56 ?_ | refine S63 ?_ | refine S65 ?_ | refine S68 ?_ | refine S73 ?_)
        exact ⟨(i + 1, T, out), ⟨by simp only; omega, hT2, by simp only; rw [hft]; exact hfo, by simp only; omega⟩, SLx, ⟨HBx, (by first | omega | (simp only [HP.tokF, HP.tokT, HP.next_add, HP.next_set, HP.next_kill, HP.next_H0, HP.next_addS, HP.next_setS, HP.next_killS, HP.next_put, HP.next_bump, HP.next_putS]; omega))⟩, by simp only; omega⟩
      · rw [if_neg hp0] at hft hall
        rw [decide_eq_false hp0]
        iterate 5 (first | refine S0 ?_ | refine S1 ?_ | refine S2 ?_ | refine S4 ?_ | refine S5 ?_ | refine S6 ?_ | refine S7 ?_ | refine S8 ?_ | refine S9 ?_ | refine S10 ?_ | refine S11 ?_ | refine S12 ?_ | refine S13 ?_ | refine S15 ?_ | refine S16 ?_ | refine S19 ?_ | refine S20 ?_ | refine S21 ?_ | refine S22 ?_ | refine S23 ?_ | refine S25 ?_ | refine S26 ?_ | refine S30 ?_ | refine S37 ?_ | refine S41 ?_ | refine S46 ?_ | refine S49 ?_ | refine S56 ?_ | refine S63 ?_ | refine S65 ?_ | refine S68 ?_ | refine S73 ?_)
        refine CW.freezeP 9 (tk := hp.tok true) rfl (HP.set_same _ _ _) ?_
        rcases idx_c h1 hn p with ⟨hnone, ki⟩ | ⟨m, c, hsome, hm3, hc, ki⟩
        · repeat (first | refine S0 ?_ | refine S1 ?_ | refine S2 ?_ | refine S4 ?_ | refine S5 ?_ | refine S6 ?_ | refine S7 ?_ | refine S8 ?_ | refine S9 ?_ | refine S10 ?_ | refine S11 ?_ | refine S12 ?_ | refine S13 ?_ | refine S15 ?_ | refine S16 ?_ | refine S19 ?_ | refine S20 ?_ | refine S21 ?_ | refine S22 ?_ | refine S23 ?_ | refine S25 ?_ | refine S26 ?_ | refine S30 ?_ | refine S37 ?_ | refine S41 ?_ | refine S46 ?_ | refine S49 ?_ | refine S56 ?_ | refine S63 ?_ | refine S65 ?_ | refine S68 ?_ | refine S73 ?_)
          refine Scall (args := [pli (chgL n), .clo 23 [.lptr [pint n], .lptr [pstr p]]]) ki ?_
          repeat (first | refine S0 ?_ | refine S1 ?_ | refine S2 ?_ | refine S4 ?_ | refine S5 ?_ | refine S6 ?_ | refine S7 ?_ | refine S8 ?_ | refine S9 ?_ | refine S10 ?_ | refine S11 ?_ | refine S12 ?_ | refine S13 ?_ | refine S15 ?_ | refine S16 ?_ | refine S19 ?_ | refine S20 ?_ | refine S21 ?_ | refine S22 ?_ | refine S23 ?_ | refine S25 ?_ | refine S26 ?_ | refine S30 ?_ | refine S37 ?_ | refine S41 ?_ | refine S46 ?_ | refine S49 ?_ | refine S56 ?_ | refine S63 ?_ | refine S65 ?_ | refine S68 ?_ | refine S73 ?_)
          refine .inr ⟨rfl, ?_, Fz.pair (.nrm rfl) (.cl rfl)⟩
          rw [hall, fndW_app, hfo]
          simp only
          rw [List.singleton_append, fndW, hnone]
          rfl
        · have hol2 : out.length ≤ 20000 := by omega
          have hfo2 : fndW n ((P.take (i + 1)).filter (· ≠ [])) = some (out ++ [c]) := by
            rw [hft, fndW_app, hfo]
            simp only
            rw [fndW, hsome]
            rfl
          repeat (first | refine S0 ?_ | refine S1 ?_ | refine S2 ?_ | refine S4 ?_ | refine S5 ?_ | refine S6 ?_ | refine S7 ?_ | refine S8 ?_ | refine S9 ?_ | refine S10 ?_ | refine S11 ?_ | refine S12 ?_ | refine S13 ?_ | refine S15 ?_ | refine S16 ?_ | refine S19 ?_ | refine S20 ?_ | refine S21 ?_ | refine S22 ?_ | refine S23 ?_ | refine S25 ?_ | refine S26 ?_ | refine S30 ?_ | refine S37 ?_ | refine S41 ?_ | refine S46 ?_ | refine S49 ?_ | refine S56 ?_ | refine S63 ?_ | refine S65 ?_ | refine S68 ?_ | refine S73 ?_)
          refine Scall (args := [pli (chgL n), .clo 23 [.lptr [pint n], .lptr [pstr p]]]) ki ?_
          repeat (first | refine S0 ?_ | refine S1 ?_ | refine S2 ?_ | refine S4 ?_ | refine S5 ?_ | refine S6 ?_ | refine S7 ?_ | refine S8 ?_ | refine S9 ?_ | refine S10 ?_ | refine S11 ?_ | refine S12 ?_ | refine S13 ?_ | refine S15 ?_ | refine S16 ?_ | refine S19 ?_ | refine S20 ?_ | refine S21 ?_ | refine S22 ?_ | refine S23 ?_ | refine S25 ?_ | refine S26 ?_ | refine S30 ?_ | refine S37 ?_ | refine S41 ?_ | refine S46 ?_ | refine S49 ?_ | refine S56 ?_ | refine S63 ?_ | refine S65 ?_ | refine S68 ?_ | refine S73 ?_)
          rw [hc]
          repeat (first | refine S0 ?_ | refine S1 ?_ | refine S2 ?_ | refine S4 ?_ | refine S5 ?_ | refine S6 ?_ | refine S7 ?_ | refine S8 ?_ | refine S9 ?_ | refine S10 ?_ | refine S11 ?_ | refine S12 ?_ | refine S13 ?_ | refine S15 ?_ | refine S16 ?_ | refine S19 ?_ | refine S20 ?_ | refine S21 ?_ | refine S22 ?_ | refine S23 ?_ | refine S25 ?_ | refine S26 ?_ | refine S30 ?_ | refine S37 ?_ | refine S41 ?_ | refine S46 ?_ | refine S49 ?_ | refine S56 ?_ | refine S63 ?_ | refine S65 ?_ | refine S68 ?_ | refine S73 ?_)
          refine ⟨(i + 1, (hp.add true []).tok false, out ++ [c]), ⟨by simp only; omega, HP.tok_even _, hfo2, by simp; omega⟩, SLx, ⟨?_, ?_⟩, by simp only; omega⟩
          · simp only
            exact HBx
          · exact (by first | omega | (simp only [HP.tokF, HP.tokT, HP.next_add, HP.next_set, HP.next_kill, HP.next_H0, HP.next_addS, HP.next_setS, HP.next_killS, HP.next_put, HP.next_bump, HP.next_putS]; omega))
    · obtain rfl : i = P.length := by omega
      rw [List.take_length] at hfo
      repeat (first | refine S0 ?_ | refine S1 ?_ | refine S2 ?_ | refine S4 ?_ | refine S5 ?_ | refine S6 ?_ | refine S7 ?_ | refine S8 ?_ | refine S9 ?_ | refine S10 ?_ | refine S11 ?_ | refine S12 ?_ | refine S13 ?_ | refine S15 ?_ | refine S16 ?_ | refine S19 ?_ | refine S20 ?_ | refine S21 ?_ | refine S22 ?_ | refine S23 ?_ | refine S25 ?_ | refine S26 ?_ | refine S30 ?_ | refine S37 ?_ | refine S41 ?_ | refine S46 ?_ | refine S49 ?_ | refine S56 ?_ | refine S63 ?_ | refine S65 ?_ | refine S68 ?_ | refine S73 ?_)
      exact .inl ⟨rfl, T, out, hfo, by omega, SLx, hB, hT2⟩
  · rintro e a5 w5 ⟨ρ5, s5, R5, (⟨rfl, T, out, hf, hol, hs, hB, hT⟩ | ⟨rfl, hf, hz5⟩)⟩
    · have R5 := R5.bforget hs
      obtain ⟨sT, hp⟩ := s5
      simp only at hs hB R5
      clear hs
      have hgd := fndW_gd h1 hn hf
      have kt := notation_s (n := n) (l := out) hn hol (fun x hx => gdC_lt (hgd x hx) hn)
      refine CW.fin (M := {}) (by kernel_rfl) R5 ?_
      first | simp only [updS] | simp only [updL, Nat.reduceAdd]
      refine CW.freezeI (xs := out) 6 (by rfl) (by exact hB) ?_
      repeat (first | refine S0 ?_ | refine S1 ?_ | refine S2 ?_ | refine S4 ?_ | refine S5 ?_ | refine S6 ?_ | refine S7 ?_ | refine S8 ?_ | refine S9 ?_ | refine S10 ?_ | refine S11 ?_ | refine S12 ?_ | refine S13 ?_ | refine S15 ?_ | refine S16 ?_ | refine S19 ?_ | refine S20 ?_ | refine S21 ?_ | refine S22 ?_ | refine S23 ?_ | refine S25 ?_ | refine S26 ?_ | refine S30 ?_ | refine S37 ?_ | refine S41 ?_ | refine S46 ?_ | refine S49 ?_ | refine S56 ?_ | refine S63 ?_ | refine S65 ?_ | refine S68 ?_ | refine S73 ?_)
      refine Scall (args := [pint n, pli out]) kt ?_
      repeat (first | refine S0 ?_ | refine S1 ?_ | refine S2 ?_ | refine S4 ?_ | refine S5 ?_ | refine S6 ?_ | refine S7 ?_ | refine S8 ?_ | refine S9 ?_ | refine S10 ?_ | refine S11 ?_ | refine S12 ?_ | refine S13 ?_ | refine S15 ?_ | refine S16 ?_ | refine S19 ?_ | refine S20 ?_ | refine S21 ?_ | refine S22 ?_ | refine S23 ?_ | refine S25 ?_ | refine S26 ?_ | refine S30 ?_ | refine S37 ?_ | refine S41 ?_ | refine S46 ?_ | refine S49 ?_ | refine S56 ?_ | refine S63 ?_ | refine S65 ?_ | refine S68 ?_ | refine S73 ?_)
      refine AW.binf EVx EVx (str_neq _ _ _ _ _) ?_
      obtain ⟨q1, q2⟩ := hns out hf
      by_cases he : txt n out = s
      · obtain ⟨g1, g2⟩ := q1 he
        rw [g1, g2, decide_eq_true he]
        repeat (first | refine S0 ?_ | refine S1 ?_ | refine S2 ?_ | refine S4 ?_ | refine S5 ?_ | refine S6 ?_ | refine S7 ?_ | refine S8 ?_ | refine S9 ?_ | refine S10 ?_ | refine S11 ?_ | refine S12 ?_ | refine S13 ?_ | refine S15 ?_ | refine S16 ?_ | refine S19 ?_ | refine S20 ?_ | refine S21 ?_ | refine S22 ?_ | refine S23 ?_ | refine S25 ?_ | refine S26 ?_ | refine S30 ?_ | refine S37 ?_ | refine S41 ?_ | refine S46 ?_ | refine S49 ?_ | refine S56 ?_ | refine S63 ?_ | refine S65 ?_ | refine S68 ?_ | refine S73 ?_)
        exact ⟨.inr rfl, Fz.pair (.cl (pli_cl _)) (.cl rfl)⟩
      · obtain ⟨g1, g2⟩ := q2 he
        rw [g1, g2, decide_eq_false he]
        repeat (first | refine S0 ?_ | refine S1 ?_ | refine S2 ?_ | refine S4 ?_ | refine S5 ?_ | refine S6 ?_ | refine S7 ?_ | refine S8 ?_ | refine S9 ?_ | refine S10 ?_ | refine S11 ?_ | refine S12 ?_ | refine S13 ?_ | refine S15 ?_ | refine S16 ?_ | refine S19 ?_ | refine S20 ?_ | refine S21 ?_ | refine S22 ?_ | refine S23 ?_ | refine S25 ?_ | refine S26 ?_ | refine S30 ?_ | refine S37 ?_ | refine S41 ?_ | refine S46 ?_ | refine S49 ?_ | refine S56 ?_ | refine S63 ?_ | refine S65 ?_ | refine S68 ?_ | refine S73 ?_)
        exact ⟨.inr rfl, Fz.pair (.nrm rfl) (.cl rfl)⟩
    · obtain ⟨g1, g2⟩ := hnn hf
      rw [g1, g2]
      exact ret_end R5 hz5
end Go.Proofs.YtkmkcbkfakoomaaDoor
