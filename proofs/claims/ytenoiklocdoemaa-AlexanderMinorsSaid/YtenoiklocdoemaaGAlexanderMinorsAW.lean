/- Lists of polynomials: their cells, slices.Grow and slices.Concat. No condition of its own. -/
import Derived.Lib.Walk
import Derived.Lib.SliceRun
import Derived.Lib.AppendZerosOnto
import Derived.Test.YtenoiklocdoemaaGAlexanderMinorsAB
import Derived.Test.YtenoiklocdoemaaGAlexanderMinorsAV
set_option linter.unusedVariables false
set_option linter.unusedSimpArgs false
namespace Go.Proofs.Ytenoiklocdoemaa
open Go.RowKit

/-- the cells of a list of polynomials -/
def pos (l : List Po) : List PV := l.flatMap fun p => [pint p.1, pli p.2]
theorem pos_cons (p : Po) (l : List Po) : pos (p :: l) = pint p.1 :: pli p.2 :: pos l := rfl
theorem pos_length : ∀ l : List Po, (pos l).length = l.length * 2
  | [] => rfl
  | p :: l => by rw [pos_cons, List.length_cons, List.length_cons, pos_length l, List.length_cons]; omega
theorem pos_append (a b : List Po) : pos a ++ pos b = pos (a ++ b) := by simp [pos]
theorem pos_take : ∀ (l : List Po) (k : Nat), (pos l).take (k * 2) = pos (l.take k)
  | [], k => by simp [pos]
  | p :: l, 0 => by simp [pos]
  | p :: l, k + 1 => by
    rw [pos_cons, show (k + 1) * 2 = k * 2 + 1 + 1 by omega, List.take_succ_cons, List.take_succ_cons, pos_take l k]; rfl
theorem pos_drop : ∀ (l : List Po) (k : Nat), (pos l).drop (k * 2) = pos (l.drop k)
  | [], k => by simp [pos]
  | p :: l, 0 => by simp [pos]
  | p :: l, k + 1 => by
    rw [pos_cons, show (k + 1) * 2 = k * 2 + 1 + 1 by omega, List.drop_succ_cons, List.drop_succ_cons, pos_drop l k]; rfl
@[simp] theorem pos_cl : ∀ l : List Po, PV.cl.clL (pos l) = true
  | [] => rfl
  | p :: l => by rw [pos_cons]; simp only [PV.cl.clL, pint_cl, pli_cl, pos_cl l, Bool.and_self]
theorem pos_at {l : List Po} {k : Nat} (h : k < l.length) : ((pos l).drop (k * 2)).take 2 = [pint (l.getD k (0, [])).1, pli (l.getD k (0, [])).2] := by
  rw [pos_drop, List.drop_eq_getElem_cons h, pos_cons, getD_lt _ h]; rfl
theorem pos_ones : ∀ l : List Po, ∀ p ∈ pos l, p.one = true
  | [], p, h => by cases h
  | q :: l, p, h => by
    rw [pos_cons, List.mem_cons, List.mem_cons] at h
    rcases h with rfl | rfl | h
    · rfl
    · rfl
    · exact pos_ones l p h
theorem Fz.refC {h : HP} {t sz n : Nat} {cs : List PV} (hb : h.blk t = some cs) (hn : cs.length = n * sz) (hc : PV.cl.clL cs = true) : Fz h (.ref t 0 sz n) (.lst false sz n cs) :=
  .ref hb (by omega) hn (fun i hi => by
    rw [Nat.zero_add]
    refine .cl ?_
    have hm := clL_mem.1 hc
    have : cs.getD i .junk = cs[i]'(by omega) := by simp [List.getD, show i < cs.length by omega]
    rw [this]
    exact hm _ (List.getElem_mem _))
/-- a list of polynomials -/
def pps (l : List Po) : PV := .lst false 2 l.length (pos l)
@[simp] theorem pps_cl (l : List Po) : (pps l).cl = true := by unfold pps; simp only [PV.cl, pos_cl]
/-- a list of lists of polynomials -/
def ppss (m : List (List Po)) : PV := .lst false 1 m.length (m.map pps)
@[simp] theorem ppss_cl (m : List (List Po)) : (ppss m).cl = true := by
  simp only [ppss, PV.cl]
  refine clL_mem.2 (fun c hc => ?_)
  obtain ⟨x, _, rfl⟩ := List.mem_map.1 hc
  exact pps_cl x
theorem infoP : (Try.prog.info? 36).map (fun i => (i.zero, i.size, i.bytes)) = some (some (.agg #[.int .i64 0, .slice none 0 0]), 2, 32) := by kernel_rfl
set_option maxHeartbeats 4000000 in
set_option maxRecDepth 100000 in
theorem growP_c (base : Option Addr) (n : Nat) (w : World) (h0 : 0 < n) (hn : n ≤ 1000000) :
    Calls Try.prog 74 #[.slice base 0 0, .int .i64 n] w fun e w' =>
      e = .returned (.slice (some ⟨w.heap.size, 0, none⟩) 0 (grownCap w n 0 36)) ∧
      w' = w.drew.alloc (.cells (#[] ++ Builtin.zeroCells (Value.agg #[.int .i64 0, .slice none 0 0]).cells n ++ Builtin.zeroCells (Value.agg #[.int .i64 0, .slice none 0 0]).cells (grownCap w n 0 36 - n)) 36) := by
  obtain ⟨i0, hi, hz0, hz1, hz2⟩ := info_parts infoP
  have h1 : ¬ ((n : Int) < 0) := by omega
  have h4 : (n : Int) > 0 := by omega
  have hold : (Builtin.firstCells i0.size 0 (.slice base 0 0)).run Try.prog w.drew = .ok (#[] : Array Value) w.drew := by
    cases base with
    | none => exact run_firstCells_none w.drew i0.size 0 0 0
    | some a => exact run_firstCells_some w.drew i0.size 0 a 0 0 [] (by simp) (fun j v hj => by simp at hj)
  have hrz : ∀ ty, (Builtin.append_ #[32, 3] ty #[.slice base 0 0, .int .i64 (n : Int)]).run Try.prog w =
      .ok (.slice (some ⟨w.heap.size, 0, none⟩) n (grownCap w n 0 36)) (w.drew.alloc (.cells (#[] ++ Builtin.zeroCells (Value.agg #[.int .i64 0, .slice none 0 0]).cells n ++ Builtin.zeroCells (Value.agg #[.int .i64 0, .slice none 0 0]).cells (grownCap w n 0 36 - n)) 36)) := fun ty => by
    have h := Lib.run_append_grow_zeros w 32 3 ty 36 i0 (.agg #[.int .i64 0, .slice none 0 0]) .i64 .i64 Try.underlying32 Try.underlying3 hi hz0 base 0 0 [] hold n h0 (by omega) (by omega) (by omega)
      (by rw [hz2]; omega) (by rw [hz2]; exact growslice_fits (by omega) (by omega))
    simpa using h
  have hGn : n ≤ grownCap w n 0 36 := grownCap_ge w n _ _
  obtain ⟨G, hG⟩ : ∃ G, G = grownCap w n 0 36 := ⟨_, rfl⟩
  rw [← hG] at hrz hGn ⊢
  have hG63 : G ≤ 9223372036854775807 := by
    have := grownCap_le_maxLen w n 0 36 (by unfold maxLen; omega)
    rw [← hG] at this
    unfold maxLen at this
    omega
  clear hold hG
  go_enter Try.func74, Try.ntmps74
  cases base with
  | none =>
    go_wp2_with (at_builtin; refine Lib.wpList_append_run _ rfl _ _ _ _ rfl _ _ rfl rfl _ _ (hrz _) ?_)
    all_goals (go_ret; exact ⟨rfl, rfl⟩)
  | some a =>
    obtain ⟨ab, ao, asp⟩ := a
    go_wp2_with (at_builtin; refine Lib.wpList_append_run _ rfl _ _ _ _ rfl _ _ rfl rfl _ _ (hrz _) ?_)
    all_goals (go_ret; exact ⟨rfl, rfl⟩)
theorem growP0_c (base : Option Addr) (w : World) :
    Calls Try.prog 74 #[.slice base 0 0, .int .i64 0] w fun e w' => e = .returned (.slice base 0 0) ∧ w' = w := by
  go_enter Try.func74, Try.ntmps74
  go_wp2
  go_ret
  exact ⟨rfl, rfl⟩
theorem below_drew_alloc2 (w : World) (o : Obj) : Below w.heap.size w (w.drew.alloc o) := by
  have h1 : Below w.heap.size w w.drew := ⟨rfl, rfl, rfl, Nat.le_refl _, fun _ _ => rfl⟩
  exact h1.alloc (Nat.le_refl _) o
theorem growP_o (n : Nat) (hn : n ≤ 1000000) : SCo Try.prog 74 [.lst true 0 0 [], pint n] 2 0 [] := by
  refine ⟨callable Try.func74 rfl rfl, fun Z w vs hz hl hv => ?_⟩
  obtain ⟨cap, A, f, e0, g1, g2, g3, g4, g5, g6⟩ := (hv 0 (by simp)).lst_inv
  have e1 := (hv 1 (by simp)).sc_inv
  obtain rfl : cap = 0 := g2 rfl
  obtain rfl : vs = [Value.slice A 0 0, .int .i64 n].toArray := vs_of (by simpa using hl) (fun i hi => by
    match i, hi with
    | 0, _ => simpa using e0
    | 1, _ => simpa using e1
    | i + 2, h => simp at h; omega)
  by_cases h0 : n = 0
  · subst h0
    refine (growP0_c A w).mono ?_
    rintro e w' ⟨rfl, rfl⟩
    exact ⟨A, 0, rfl, Nat.le_refl _, Nat.zero_le _, Below.refl _ _, fun _ => rfl, fun h => absurd rfl h⟩
  · refine (growP_c A n w (by omega) hn).mono ?_
    rintro e w' ⟨rfl, rfl⟩
    have hge := grownCap_ge w n 0 36
    refine ⟨_, _, rfl, Nat.zero_le _, grownCap_le_maxLen w n 0 36 (by unfold maxLen; omega), ?_, fun _ => rfl, fun _ => ⟨w.heap.size, 0, #[] ++ Builtin.zeroCells (Value.agg #[.int .i64 0, .slice none 0 0]).cells n ++ Builtin.zeroCells (Value.agg #[.int .i64 0, .slice none 0 0]).cells (grownCap w n 0 36 - n), 36, rfl, Nat.le_refl _, ?_, ?_, Nat.zero_le _, fun i hi => by simp at hi⟩⟩
    · exact below_drew_alloc2 w _
    · show (w.heap.push _)[w.heap.size]? = _
      simp
    · simp [size_zeroCells, Value.cells]; omega
def pcP (p : Bool × List Po) : PV := .lst p.1 2 p.2.length (pos p.2)
def flatP (cs : List (Bool × List Po)) : List Po := cs.flatMap (·.2)
theorem flatP_take (cs : List (Bool × List Po)) (k : Nat) : (flatP (cs.take k)).length ≤ (flatP cs).length := by
  have h := congrArg (fun l => (flatP l).length) (List.take_append_drop k cs)
  simp only [flatP, List.flatMap_append, List.length_append] at h ⊢
  omega
theorem flatP_succ {cs : List (Bool × List Po)} {k : Nat} (hk : k < cs.length) : flatP (cs.take (k + 1)) = flatP (cs.take k) ++ cs[k].2 := by
  unfold flatP
  rw [List.take_succ_eq_append_getElem hk, List.flatMap_append]
  simp only [List.flatMap_cons, List.flatMap_nil, List.append_nil]
theorem app_pos {a b : List Po} {k : Nat} (hk : k = a.length) : ((pos a).drop 0).take (k * 2) ++ pos b = pos (a ++ b) := by
  subst hk
  rw [List.drop_zero, List.take_of_length_le (by rw [pos_length]; omega), pos_append]
set_option maxHeartbeats 2000000 in
set_option maxRecDepth 100000 in
theorem concatP_s {cs : List (Bool × List Po)} (hn : cs.length ≤ 1000) (hl : (flatP cs).length ≤ 100000) : SC Try.prog 63 [.lst true 1 cs.length (cs.map pcP)] (pps (flatP cs)) := by
  refine SC.go {} tok mixed Try.func63 rfl rfl Try.ntmps63 rfl rfl (by kernel_rfl) ?_
  first | simp only [updS] | simp only [updL, Nat.reduceAdd]
  repeat (first | refine S0 ?_ | refine S1 ?_ | refine S2 ?_ | refine S4 ?_ | refine S5 ?_ | refine S6 ?_ | refine S7 ?_ | refine S8 ?_ | refine S10 ?_ | refine S11 ?_ | refine S13 ?_ | refine S15 ?_ | refine S16 ?_ | refine S19 ?_ | refine S20 ?_ | refine S21 ?_ | refine S22 ?_ | refine S23 ?_ | refine S25 ?_)
  refine CW.loopS (fun k : Nat => k ≤ cs.length) (fun k => [(0, .lst true 1 cs.length (cs.map pcP)), (3, pint (flatP (cs.take k)).length), (9, .lst true 1 cs.length (cs.map pcP)), (10, pint cs.length), (11, pint k)]) (fun _ h => h = H0) (fun k => cs.length - k) 0 ⟨by omega, by simp [flatP]; exact SLx, rfl⟩ ?_
  rintro k t _ hk rfl
  first | simp only [updS] | simp only [updL, Nat.reduceAdd]
  by_cases hk2 : k < cs.length
  · have hfl := flatP_take cs (k + 1)
    rw [flatP_succ hk2, List.length_append] at hfl
    have hcell : (cs.map pcP)[k]? = some (pcP cs[k]) := by simp [hk2]
    have hfs := congrArg List.length (flatP_succ hk2)
    rw [List.length_append] at hfs
    generalize hq : cs[k] = q at *
    obtain ⟨cb, xs⟩ := q
    simp only at hfl hfs
    repeat (first | refine S0 ?_ | refine S1 ?_ | refine S2 ?_ | refine S4 ?_ | refine S5 ?_ | refine S6 ?_ | refine S7 ?_ | refine S8 ?_ | refine S10 ?_ | refine S11 ?_ | refine S13 ?_ | refine S15 ?_ | refine S16 ?_ | refine S19 ?_ | refine S20 ?_ | refine S21 ?_ | refine S22 ?_ | refine S23 ?_ | refine S25 ?_)
    refine AW.ldl (by simp only [evA, upd, putA, ofConst, ofConst.ofCell, Nat.reduceEqDiff, ↓reduceIte, List.map_cons, List.map_nil, List.toList_toArray]; first | done | rfl) rfl (p := .lst cb 2 xs.length (pos xs)) (by rw [Int.toNat_natCast, Nat.mul_one, List.getElem?_drop, Nat.add_zero]; exact hcell) ?_
    repeat (first | refine S0 ?_ | refine S1 ?_ | refine S2 ?_ | refine S4 ?_ | refine S5 ?_ | refine S6 ?_ | refine S7 ?_ | refine S8 ?_ | refine S10 ?_ | refine S11 ?_ | refine S13 ?_ | refine S15 ?_ | refine S16 ?_ | refine S19 ?_ | refine S20 ?_ | refine S21 ?_ | refine S22 ?_ | refine S23 ?_ | refine S25 ?_)
    exact ⟨k + 1, by omega, by rw [hfs]; exact SLx, rfl, by omega⟩
  · obtain rfl : k = cs.length := by omega
    have hG := growP_o (flatP cs).length (by omega)
    rw [List.take_length]
    repeat (first | refine S0 ?_ | refine S1 ?_ | refine S2 ?_ | refine S4 ?_ | refine S5 ?_ | refine S6 ?_ | refine S7 ?_ | refine S8 ?_ | refine S10 ?_ | refine S11 ?_ | refine S13 ?_ | refine S15 ?_ | refine S16 ?_ | refine S19 ?_ | refine S20 ?_ | refine S21 ?_ | refine S22 ?_ | refine S23 ?_ | refine S25 ?_)
    refine Scallo (args := [.lst true 0 0 [], pint (flatP cs).length]) hG ?_
    repeat (first | refine S0 ?_ | refine S1 ?_ | refine S2 ?_ | refine S4 ?_ | refine S5 ?_ | refine S6 ?_ | refine S7 ?_ | refine S8 ?_ | refine S10 ?_ | refine S11 ?_ | refine S13 ?_ | refine S15 ?_ | refine S16 ?_ | refine S19 ?_ | refine S20 ?_ | refine S21 ?_ | refine S22 ?_ | refine S23 ?_ | refine S25 ?_)
    refine CW.loopS (fun i : Nat × Nat => i.1 ≤ cs.length ∧ i.2 % 2 = 0) (fun i => [(6, .ref i.2 0 2 (flatP (cs.take i.1)).length), (25, .lst true 1 cs.length (cs.map pcP)), (26, pint cs.length), (27, pint i.1)]) (fun i h => h.blk i.2 = some (pos (flatP (cs.take i.1)))) (fun i => cs.length - i.1) (0, 0) ⟨⟨by simp, rfl⟩, by simp [flatP]; exact SLx, by simp [flatP, pos]; exact HBx⟩ ?_
    rintro ⟨k, T⟩ t hp ⟨hk, hT⟩ B
    simp only at hk hT B
    first | simp only [updS] | simp only [updL, Nat.reduceAdd]
    by_cases hk2 : k < cs.length
    · have hfl := flatP_take cs (k + 1)
      rw [flatP_succ hk2, List.length_append] at hfl
      have hcell : (cs.map pcP)[k]? = some (pcP cs[k]) := by simp [hk2]
      have hfs := flatP_succ hk2
      generalize hq : cs[k] = q at *
      obtain ⟨cb, xs⟩ := q
      simp only at hfl hfs
      generalize hF : flatP (cs.take k) = F at *
      repeat (first | refine S0 ?_ | refine S1 ?_ | refine S2 ?_ | refine S4 ?_ | refine S5 ?_ | refine S6 ?_ | refine S7 ?_ | refine S8 ?_ | refine S10 ?_ | refine S11 ?_ | refine S13 ?_ | refine S15 ?_ | refine S16 ?_ | refine S19 ?_ | refine S20 ?_ | refine S21 ?_ | refine S22 ?_ | refine S23 ?_ | refine S25 ?_)
      refine AW.ldl (by simp only [evA, upd, putA, ofConst, ofConst.ofCell, Nat.reduceEqDiff, ↓reduceIte, List.map_cons, List.map_nil, List.toList_toArray]; first | done | rfl) rfl (p := .lst cb 2 xs.length (pos xs)) (by rw [Int.toNat_natCast, Nat.mul_one, List.getElem?_drop, Nat.add_zero]; exact hcell) ?_
      repeat (first | refine S0 ?_ | refine S1 ?_ | refine S2 ?_ | refine S4 ?_ | refine S5 ?_ | refine S6 ?_ | refine S7 ?_ | refine S8 ?_ | refine S10 ?_ | refine S11 ?_ | refine S13 ?_ | refine S15 ?_ | refine S16 ?_ | refine S19 ?_ | refine S20 ?_ | refine S21 ?_ | refine S22 ?_ | refine S23 ?_ | refine S25 ?_)
      refine AW.app EVx (by first | exact Or.inl rfl | exact Or.inr ⟨rfl, HP.tok_even _⟩ | exact Or.inr (Or.inl ⟨rfl, HP.tok_even _⟩) | exact Or.inr (Or.inr ⟨rfl, HP.tok_odd _⟩) | exact Or.inr (Or.inl rfl) | exact Or.inr (Or.inr (Or.inl rfl)) | exact Or.inr (Or.inr (Or.inr (Or.inl ⟨rfl, HP.tok_odd _⟩))) | exact Or.inr (Or.inr (Or.inr (Or.inr ⟨rfl, HP.tok_even _⟩))) | exact Or.inr (Or.inr (Or.inr (Or.inr ⟨rfl, by assumption⟩))) | exact Or.inr ⟨rfl, by assumption⟩ | exact Or.inr (Or.inl ⟨rfl, by assumption⟩) | exact Or.inr (Or.inr ⟨rfl, by assumption⟩) | exact Or.inr (Or.inr (Or.inr (Or.inl ⟨rfl, by assumption⟩))) | exact Or.inr (Or.inr (Or.inl ⟨rfl, HP.tok_odd _⟩)) | exact Or.inr (Or.inr (Or.inl ⟨rfl, by assumption⟩)) | exact Or.inr (Or.inr (Or.inr rfl)) | exact Or.inr (Or.inr rfl) | exact Or.inr rfl) rfl B (by first | exact ⟨rfl, rfl, .inr rfl⟩ | exact ⟨rfl, rfl, .inl rfl⟩ | (simp only [evA, upd, putA, Nat.reduceEqDiff, ↓reduceIte]; first | exact ⟨rfl, rfl, .inr rfl⟩ | exact ⟨rfl, rfl, .inl rfl⟩)) (by rw [pos_length]; omega) (pos_ones _) ⟨by omega, by omega⟩ (app_pos rfl) rfl ?_
      repeat (first | refine S0 ?_ | refine S1 ?_ | refine S2 ?_ | refine S4 ?_ | refine S5 ?_ | refine S6 ?_ | refine S7 ?_ | refine S8 ?_ | refine S10 ?_ | refine S11 ?_ | refine S13 ?_ | refine S15 ?_ | refine S16 ?_ | refine S19 ?_ | refine S20 ?_ | refine S21 ?_ | refine S22 ?_ | refine S23 ?_ | refine S25 ?_)
      exact ⟨(k + 1, 2 * hp.next), ⟨by simp only; omega, by simp only; omega⟩, by simp only [hfs, List.length_append]; exact SLx, by simp only [hfs]; exact (by (try dsimp only); repeat' (first | exact HBx | exact SBx | refine And.intro ?_ ?_)), by simp only; omega⟩
    · obtain rfl : k = cs.length := by omega
      rw [List.take_length] at B ⊢
      repeat (first | refine S0 ?_ | refine S1 ?_ | refine S2 ?_ | refine S4 ?_ | refine S5 ?_ | refine S6 ?_ | refine S7 ?_ | refine S8 ?_ | refine S10 ?_ | refine S11 ?_ | refine S13 ?_ | refine S15 ?_ | refine S16 ?_ | refine S19 ?_ | refine S20 ?_ | refine S21 ?_ | refine S22 ?_ | refine S23 ?_ | refine S25 ?_)
      exact ⟨.inr rfl, Fz.refC B (by rw [pos_length]) (pos_cl _)⟩
end Go.Proofs.Ytenoiklocdoemaa
