/- The reference's Group: all elements, by their numbers. No condition of its own. -/
import Derived.Test.YthacglggkgmbhaaGGroupOrbitsBM
import Derived.Test.YthacglggkgmbhaaGGroupOrbitsBN
set_option linter.unusedVariables false
set_option linter.unusedSimpArgs false
namespace Go.Proofs.Ythacglggkgmbhaa
open Go.RowKit

theorem number_s {n : Nat} {F : Fn} (hF : Pe n F) (hn : n ≤ 9) : SC Try.prog 10 [pli (tabN n F)] (pint (number (tabN n F) : Nat)) := by
  have hp := hF.isP.pm
  refine SC.ofI (fun x hx => ?_) (callable Try.func10 rfl rfl) fun Z w A cap h => (number_c A cap _ w h hp.rng hp.nd (by rw [tab_len]; exact hn)).mono fun e w' ⟨h1, h2⟩ => ⟨_, h1, .sc _, h2⟩
  obtain ⟨i, hi, rfl⟩ := List.mem_map.1 hx
  have := hF.lt i (List.mem_range.1 hi)
  exact in64_of (by omega)
theorem after_p {n : Nat} {F G : Fn} (hF : Pe n F) (hn : n ≤ 9) : SC Try.prog 27 [pli (tabN n F), pli (tabN n G)] (pli (tabN n (cmp F G))) := after_s (F := F) (G := G) rfl rfl hF.lt hn hn
theorem rback_p {n : Nat} {F : Fn} (hF : Pe n F) (hn : n ≤ 9) : SC Try.prog 26 [pli (tabN n F)] (pli (tabN n (iv n F))) :=
  rback_s (F := F) (G := iv n F) rfl hF.lt (fun i hi => ⟨hF.iv.lt i hi, congrFun (iv_r hF hn) i, congrFun (iv_l hF hn) i⟩) hn
/-- a word; the empty one is nil -/
def wv (w : List Int) : PV := if w = [] then .lst true 0 0 [] else pli w
theorem wv_app (w : List Int) (x : Int) : wv (w ++ [x]) = pli (w ++ [x]) := if_neg (by simp)
@[simp] theorem wv_cl (w : List Int) : (wv w).cl = true := by
  unfold wv
  split
  · rfl
  · exact pli_cl w
theorem wv_one (w : List Int) : (wv w).one = true := by
  unfold wv
  split
  · rfl
  · rfl
theorem el_one {l : List Int} {w : List Int} : ∀ p ∈ [pli l, wv w], p.one = true := by
  intro q hq
  simp only [List.mem_cons, List.not_mem_nil, or_false] at hq
  rcases hq with rfl | rfl
  · rfl
  · exact wv_one w
theorem wv_nrm (w : List Int) : (wv w).nrm = pli w := by
  unfold wv
  split
  · rename_i h; subst h; rfl
  · cases w with
    | nil => rfl
    | cons x w => rfl
theorem SCo.weak {P : Program} {f : FuncId} {args args' : List PV} {sz n : Nat} {cs : List PV} (h : SCo P f args' sz n cs) (e : args.map PV.nrm = args') : SCo P f args sz n cs := by
  subst e
  refine ⟨h.1, fun Z w vs hz hl hv => h.2 Z w vs hz (by simpa using hl) (fun i hi => ?_)⟩
  have hi' : i < args.length := by simpa using hi
  have e1 : (args.map PV.nrm).getD i .junk = (args.getD i .junk).nrm := by simp [List.getD, hi']
  rw [e1]; exact (hv i hi').nrm
theorem clone_w {w : List Int} (hl : w.length ≤ 1000000000) : SCo Try.prog 28 [wv w] 1 w.length (ints w) := SCo.weak (clone_o w (by omega)) (by simp [wv_nrm])
/-- the map of the elements -/
def kN (n : Nat) (E : List El) : List (List Int) := E.map fun x => [((number (tabN n x.1) : Nat) : Int)]
def vN (n : Nat) (E : List El) : List PV := E.map fun x => .agg [pli (tabN n x.1), wv x.2]
@[simp] theorem kN_len (n : Nat) (E : List El) : (kN n E).length = E.length := by simp [kN]
@[simp] theorem vN_len (n : Nat) (E : List El) : (vN n E).length = E.length := by simp [vN]
/-- elements as cells -/
def cN (n : Nat) (E : List El) : List PV := E.flatMap fun x => [pli (tabN n x.1), wv x.2]
theorem cN_len (n : Nat) : ∀ E : List El, (cN n E).length = 2 * E.length
  | [] => rfl
  | x :: E => by
    have := cN_len n E
    unfold cN at this ⊢
    rw [List.flatMap_cons, List.length_append, this, List.length_cons]
    simp only [List.length_cons, List.length_nil]; omega
theorem cN_app (n : Nat) (E D : List El) : cN n (E ++ D) = cN n E ++ cN n D := by simp [cN]
theorem kN_mem {n : Nat} {gs : List Fn} {E : List El} (B : Be n gs E) {p : Fn} (hp : Pe n p) : [((number (tabN n p) : Nat) : Int)] ∈ kN n E ↔ p ∈ E.map (·.1) := by
  unfold kN
  constructor
  · intro h
    obtain ⟨x, hx, e⟩ := List.mem_map.1 h
    simp only [List.cons.injEq, Int.natCast_inj, and_true] at e
    exact List.mem_map.2 ⟨x, hx, number_inj (B.ok x hx).1 hp e⟩
  · intro h
    obtain ⟨x, hx, rfl⟩ := List.mem_map.1 h
    exact List.mem_map.2 ⟨x, hx, rfl⟩
theorem cN_at {n k : Nat} : ∀ {E : List El}, k < E.length → ((cN n E).drop (k * 2)).take 2 = [pli (tabN n (E.getD k (id, [])).1), wv (E.getD k (id, [])).2] := by
  induction k with
  | zero =>
    intro E h
    cases E with
    | nil => simp at h
    | cons x E => simp [cN]
  | succ k ih =>
    intro E h
    cases E with
    | nil => simp at h
    | cons x E =>
      have e : cN n (x :: E) = pli (tabN n x.1) :: wv x.2 :: cN n E := by simp [cN]
      rw [e, show (k + 1) * 2 = k * 2 + 1 + 1 by omega, List.drop_succ_cons, List.drop_succ_cons, ih (by simpa using h)]
      simp [List.getD]
theorem vN_none {n : Nat} {zp : PV} {E : List El} {k : List Int} (h : k ∉ kN n E) : getP (kN n E) (vN n E) k zp = zp := if_neg h
theorem vN_get {n : Nat} {gs : List Fn} {zp : PV} {E : List El} (B : Be n gs E) {p : Fn} (hp : Pe n p) (h : p ∈ E.map (·.1)) : ∃ x, x ∈ E ∧ x.1 = p ∧ getP (kN n E) (vN n E) [((number (tabN n p) : Nat) : Int)] zp = .agg [pli (tabN n x.1), wv x.2] := by
  have hm := (kN_mem B hp).2 h
  unfold getP
  rw [if_pos hm]
  have hi : (kN n E).idxOf [((number (tabN n p) : Nat) : Int)] < E.length := by rw [← kN_len n E]; exact List.idxOf_lt_length_iff.2 hm
  have e1 := List.getElem_idxOf (show (kN n E).idxOf [((number (tabN n p) : Nat) : Int)] < (kN n E).length by rw [kN_len]; exact hi)
  generalize (kN n E).idxOf [((number (tabN n p) : Nat) : Int)] = j at *
  refine ⟨E[j], List.getElem_mem hi, ?_, by simp [vN, List.getD, hi]⟩
  simp only [kN, List.getElem_map, List.cons.injEq, Int.natCast_inj, and_true] at e1
  exact number_inj (B.ok _ (List.getElem_mem hi)).1 hp e1
set_option maxHeartbeats 16000000 in
set_option maxRecDepth 100000 in
theorem group_s {n : Nat} (hn : n ≤ 9) {c : Bool} {gs : List Fn} (hg : ∀ g ∈ gs, Pe n g) (hl : gs.length ≤ 6) {E : List El} (hE : ∃ i, i = (bfs n gs i).length ∧ E = bfs n gs i) :
    SC Try.prog 9 [pint n, .lst c 1 gs.length (gL n gs)] (.gfm .int (kN n E) (vN n E)) := by
  have kR := row_s n hn
  refine SC.go {} tok mixed Try.func9 rfl rfl Try.ntmps9 rfl rfl (by kernel_rfl) ?_
  first | simp only [updS] | simp only [updL, Nat.reduceAdd]
  repeat (first | refine S0 ?_ | refine S1 ?_ | refine S2 ?_ | refine S3 ?_ | refine S4 ?_ | refine S5 ?_ | refine S6 ?_ | refine S7 ?_ | refine S8 ?_ | refine S10 ?_ | refine S11 ?_ | refine S13 ?_ | refine S15 ?_ | refine S16 ?_ | refine S19 ?_ | refine S20 ?_ | refine S21 ?_ | refine S22 ?_ | refine S23 ?_ | refine S25 ?_ | refine S26 ?_ | refine S30 ?_ | refine S34 ?_ | refine S36 ?_ | refine S45 ?_ | refine S46 ?_ | refine S48 ?_ | refine S49 ?_ | refine S51 ?_ | refine S63 ?_ | refine S66 ?_ | refine S68 ?_ | refine S69 ?_ | refine S88 ?_ | refine S89 ?_ | refine S90 ?_ | refine S92 ?_)
  refine Scall (args := [pint n]) kR ?_
  repeat (first | refine S0 ?_ | refine S1 ?_ | refine S2 ?_ | refine S3 ?_ | refine S4 ?_ | refine S5 ?_ | refine S6 ?_ | refine S7 ?_ | refine S8 ?_ | refine S10 ?_ | refine S11 ?_ | refine S13 ?_ | refine S15 ?_ | refine S16 ?_ | refine S19 ?_ | refine S20 ?_ | refine S21 ?_ | refine S22 ?_ | refine S23 ?_ | refine S25 ?_ | refine S26 ?_ | refine S30 ?_ | refine S34 ?_ | refine S36 ?_ | refine S45 ?_ | refine S46 ?_ | refine S48 ?_ | refine S49 ?_ | refine S51 ?_ | refine S63 ?_ | refine S66 ?_ | refine S68 ?_ | refine S69 ?_ | refine S88 ?_ | refine S89 ?_ | refine S90 ?_ | refine S92 ?_)
  refine Scall (args := [pint n]) kR ?_
  repeat (first | refine S0 ?_ | refine S1 ?_ | refine S2 ?_ | refine S3 ?_ | refine S4 ?_ | refine S5 ?_ | refine S6 ?_ | refine S7 ?_ | refine S8 ?_ | refine S10 ?_ | refine S11 ?_ | refine S13 ?_ | refine S15 ?_ | refine S16 ?_ | refine S19 ?_ | refine S20 ?_ | refine S21 ?_ | refine S22 ?_ | refine S23 ?_ | refine S25 ?_ | refine S26 ?_ | refine S30 ?_ | refine S34 ?_ | refine S36 ?_ | refine S45 ?_ | refine S46 ?_ | refine S48 ?_ | refine S49 ?_ | refine S51 ?_ | refine S63 ?_ | refine S66 ?_ | refine S68 ?_ | refine S69 ?_ | refine S88 ?_ | refine S89 ?_ | refine S90 ?_ | refine S92 ?_)
  refine CW.nrmS 6 (v := .lst false 2 1 [pli (tabN n id), .lst true 0 0 []]) rfl ?_
  have hbl : ∀ i, (bfs n gs i).length ≤ 387420489 := fun i => bfs_len hn hg (Be.bfs hg i)
  refine CW.loopS (fun a : Nat => a ≤ (bfs n gs a).length) (fun a => [(0, pint n), (1, .lst c 1 gs.length (gL n gs)), (5, .mref 1), (6, .lst false 2 ((bfs n gs a).length - a) (cN n ((bfs n gs a).drop a)))])
    (fun a hp => hp.sp 1 = some (.gmap .int (kN n (bfs n gs a)) (vN n (bfs n gs a))) ∧ 1 ≤ hp.next) (fun a => 387420490 - a) 0 ⟨by simp [bfs], SLx, by
      have e1 : kN n (bfs n gs 0) = [[0]] := by show [[((number (tabN n id) : Nat) : Int)]] = _; rw [number_id]; rfl
      rw [e1]
      exact ⟨HP.setS_same _ _ _, Nat.le_refl _⟩⟩ ?_
  rintro a t hp ha ⟨hS, hnx⟩
  first | simp only [updS] | simp only [updL, Nat.reduceAdd]
  have hla := hbl a
  by_cases h0 : a < (bfs n gs a).length
  · repeat (first | refine S0 ?_ | refine S1 ?_ | refine S2 ?_ | refine S3 ?_ | refine S4 ?_ | refine S5 ?_ | refine S6 ?_ | refine S7 ?_ | refine S8 ?_ | refine S10 ?_ | refine S11 ?_ | refine S13 ?_ | refine S15 ?_ | refine S16 ?_ | refine S19 ?_ | refine S20 ?_ | refine S21 ?_ | refine S22 ?_ | refine S23 ?_ | refine S25 ?_ | refine S26 ?_ | refine S30 ?_ | refine S34 ?_ | refine S36 ?_ | refine S45 ?_ | refine S46 ?_ | refine S48 ?_ | refine S49 ?_ | refine S51 ?_ | refine S63 ?_ | refine S66 ?_ | refine S68 ?_ | refine S69 ?_ | refine S88 ?_ | refine S89 ?_ | refine S90 ?_ | refine S92 ?_)
    refine CW.own 7 2 rfl ?_
    obtain ⟨b, hbd⟩ : ∃ b, b = (bfs n gs a).length := ⟨_, rfl⟩
    obtain ⟨m, hm⟩ : ∃ m, m = b - a := ⟨_, rfl⟩
    rw [← hbd, ← hm]
    have hmono : ∀ k, (bfs n gs a).length ≤ (bfs n gs (a + k)).length := fun k => by
      induction k with
      | zero => exact Nat.le_refl _
      | succ k ih => obtain ⟨D, hD⟩ := bfs_mono n gs (a + k); show _ ≤ (bfs n gs (a + k + 1)).length; rw [hD, List.length_append]; omega
    have hget : ∀ k, ∃ D, bfs n gs (a + k) = bfs n gs a ++ D := fun k => by
      induction k with
      | zero => exact ⟨[], by simp⟩
      | succ k ih =>
        obtain ⟨D, hD⟩ := ih
        obtain ⟨D2, hD2⟩ := bfs_mono n gs (a + k)
        exact ⟨D ++ D2, by show bfs n gs (a + k + 1) = _; rw [hD2, hD, List.append_assoc]⟩
    refine CW.loopS (fun x : Nat × Nat => x.1 ≤ m) (fun x => [(0, pint n), (1, .lst c 1 gs.length (gL n gs)), (5, .mref 1), (7, .ref x.2 0 2 ((bfs n gs (a + x.1)).length - b)), (31, .lst false 2 m (cN n ((bfs n gs a).drop a))), (32, pint m), (33, pint x.1)])
      (fun x hp => hp.sp 1 = some (.gmap .int (kN n (bfs n gs (a + x.1))) (vN n (bfs n gs (a + x.1)))) ∧ hp.blk x.2 = some (cN n ((bfs n gs (a + x.1)).drop b)) ∧ x.2 % 2 = 0 ∧ x.2 < 2 * hp.next ∧ 1 ≤ hp.next) (fun x => m - x.1) (0, hp.tok false) ⟨Nat.zero_le _, by
        simp only [Nat.add_zero]
        rw [← hbd, Nat.sub_self]
        exact SLx, by
        simp only [Nat.add_zero]
        rw [hbd, List.drop_length]
        exact ⟨hS, HP.add_same _ _ _, HP.tok_even _, by rw [HP.tokF]; show 2 * hp.next < 2 * (hp.next + 1); omega, by show 1 ≤ hp.next + 1; omega⟩⟩ ?_
    clear hS hnx hp
    rintro ⟨k, nt⟩ t hp hk ⟨hS, hN, hne, hnl, hnx⟩
    simp only at hk hS hN hne hnl hnx
    first | simp only [updS] | simp only [updL, Nat.reduceAdd]
    by_cases hk2 : k < m
    · have hlk := hbl (a + k)
      have hmk := hmono k
      obtain ⟨D, hD⟩ := hget k
      obtain ⟨x, hx⟩ : ∃ x, x = (bfs n gs (a + k)).getD (a + k) (id, []) := ⟨_, rfl⟩
      have hx2 : ((bfs n gs a).drop a).getD k (id, []) = x := by
        rw [hx, hD]
        simp [List.getD, List.getElem?_append, List.getElem?_drop, show a + k < (bfs n gs a).length by omega]
      have hxm : x ∈ bfs n gs (a + k) := by rw [hx]; exact mem_getD (by omega) _
      have hB := Be.bfs hg (a + k)
      have hxo := hB.ok x hxm
      have hxw := hB.wl x hxm
      have hcl := cN_len n ((bfs n gs a).drop a)
      have hdl : ((bfs n gs a).drop a).length = m := by rw [List.length_drop]; omega
      rw [hdl] at hcl
      repeat (first | refine S0 ?_ | refine S1 ?_ | refine S2 ?_ | refine S3 ?_ | refine S4 ?_ | refine S5 ?_ | refine S6 ?_ | refine S7 ?_ | refine S8 ?_ | refine S10 ?_ | refine S11 ?_ | refine S13 ?_ | refine S15 ?_ | refine S16 ?_ | refine S19 ?_ | refine S20 ?_ | refine S21 ?_ | refine S22 ?_ | refine S23 ?_ | refine S25 ?_ | refine S26 ?_ | refine S30 ?_ | refine S34 ?_ | refine S36 ?_ | refine S45 ?_ | refine S46 ?_ | refine S48 ?_ | refine S49 ?_ | refine S51 ?_ | refine S63 ?_ | refine S66 ?_ | refine S68 ?_ | refine S69 ?_ | refine S88 ?_ | refine S89 ?_ | refine S90 ?_ | refine S92 ?_)
      refine AW.ldla (r := [pli (tabN n x.1), wv x.2]) EVx rfl (by simp only [Int.toNat_natCast, List.length_drop, hcl]; omega) (by rw [Int.toNat_natCast, cN_at (by rw [hdl]; exact hk2), hx2]) ?_
      iterate 1 (first | refine S0 ?_ | refine S1 ?_ | refine S2 ?_ | refine S3 ?_ | refine S4 ?_ | refine S5 ?_ | refine S6 ?_ | refine S7 ?_ | refine S8 ?_ | refine S10 ?_ | refine S11 ?_ | refine S13 ?_ | refine S15 ?_ | refine S16 ?_ | refine S19 ?_ | refine S20 ?_ | refine S21 ?_ | refine S22 ?_ | refine S23 ?_ | refine S25 ?_ | refine S26 ?_ | refine S30 ?_ | refine S34 ?_ | refine S36 ?_ | refine S45 ?_ | refine S46 ?_ | refine S48 ?_ | refine S49 ?_ | refine S51 ?_ | refine S63 ?_ | refine S66 ?_ | refine S68 ?_ | refine S69 ?_ | refine S88 ?_ | refine S89 ?_ | refine S90 ?_ | refine S92 ?_)
      refine AW.staR (r := [pli (tabN n x.1), wv x.2]) EVx (by first | exact Or.inl rfl | exact Or.inr ⟨rfl, HP.tok_even _⟩ | exact Or.inr (Or.inl ⟨rfl, HP.tok_even _⟩) | exact Or.inr (Or.inr ⟨rfl, HP.tok_odd _⟩) | exact Or.inr (Or.inl rfl) | exact Or.inr (Or.inr (Or.inl rfl)) | exact Or.inr (Or.inr (Or.inr (Or.inl ⟨rfl, HP.tok_odd _⟩))) | exact Or.inr (Or.inr (Or.inr (Or.inr ⟨rfl, HP.tok_even _⟩))) | exact Or.inr (Or.inr (Or.inr (Or.inr ⟨rfl, by assumption⟩))) | exact Or.inr ⟨rfl, by assumption⟩ | exact Or.inr (Or.inl ⟨rfl, by assumption⟩) | exact Or.inr (Or.inr ⟨rfl, by assumption⟩) | exact Or.inr (Or.inr (Or.inr (Or.inl ⟨rfl, by assumption⟩))) | exact Or.inr (Or.inr (Or.inl ⟨rfl, HP.tok_odd _⟩)) | exact Or.inr (Or.inr (Or.inl ⟨rfl, by assumption⟩)) | exact Or.inr (Or.inr (Or.inr rfl)) | exact Or.inr (Or.inr rfl) | exact Or.inr rfl) EVx rfl (HP.add_same _ _ _) rfl (by first | omega | (simp only [ints_length, bls_length, List.length_map, List.length_append, List.length_set, List.length_cons, List.length_nil, Int.toNat_natCast]; omega)) el_one rfl ?_
      repeat (first | refine S0 ?_ | refine S1 ?_ | refine S2 ?_ | refine S3 ?_ | refine S4 ?_ | refine S5 ?_ | refine S6 ?_ | refine S7 ?_ | refine S8 ?_ | refine S10 ?_ | refine S11 ?_ | refine S13 ?_ | refine S15 ?_ | refine S16 ?_ | refine S19 ?_ | refine S20 ?_ | refine S21 ?_ | refine S22 ?_ | refine S23 ?_ | refine S25 ?_ | refine S26 ?_ | refine S30 ?_ | refine S34 ?_ | refine S36 ?_ | refine S45 ?_ | refine S46 ?_ | refine S48 ?_ | refine S49 ?_ | refine S51 ?_ | refine S63 ?_ | refine S66 ?_ | refine S68 ?_ | refine S69 ?_ | refine S88 ?_ | refine S89 ?_ | refine S90 ?_ | refine S92 ?_)
      obtain ⟨X, hX⟩ : ∃ X, X = (hp.add true [.lst true 0 0 [], .lst true 0 0 []]).set (hp.tok true) [pli (tabN n x.1), wv x.2] := ⟨_, rfl⟩
      obtain ⟨xt, hxt⟩ : ∃ xt, xt = hp.tok true := ⟨_, rfl⟩
      have hxt2 : xt = 2 * hp.next + 1 := by rw [hxt]; rfl
      rw [← hX, ← hxt]
      have x1 : X.next = hp.next + 1 := by rw [hX]; rfl
      have x2 : X.sp 1 = some (.gmap .int (kN n (bfs n gs (a + k))) (vN n (bfs n gs (a + k)))) := by rw [hX]; exact hS
      have x3 : X.blk nt = some (cN n ((bfs n gs (a + k)).drop b)) := by
        rw [hX]
        exact (HP.set_other _ _ (by rw [← hxt]; omega)).trans ((HP.add_other _ _ _ (by rw [← hxt]; omega)).trans hN)
      have x4 : X.blk xt = some [pli (tabN n x.1), wv x.2] := by rw [hX, hxt]; exact HP.set_same _ _ _
      clear hX hxt
      refine CW.loopS (fun y : Nat × Nat => y.1 ≤ gs.length) (fun y => [(0, pint n), (1, .lst c 1 gs.length (gL n gs)), (5, .mref 1), (7, .ref y.2 0 2 ((prt n gs x (bfs n gs (a + k)) (2 * y.1)).length - b)), (31, .lst false 2 m (cN n ((bfs n gs a).drop a))), (32, pint m), (33, pint k), (9, .ptr xt 0), (37, .lst c 1 gs.length (gL n gs)), (38, pint gs.length), (39, pint y.1)])
        (fun y hp => hp.sp 1 = some (.gmap .int (kN n (prt n gs x (bfs n gs (a + k)) (2 * y.1))) (vN n (prt n gs x (bfs n gs (a + k)) (2 * y.1)))) ∧ hp.blk y.2 = some (cN n ((prt n gs x (bfs n gs (a + k)) (2 * y.1)).drop b)) ∧ y.2 % 2 = 0 ∧ y.2 < 2 * hp.next ∧ 1 ≤ hp.next ∧ hp.blk xt = some [pli (tabN n x.1), wv x.2] ∧ xt < 2 * hp.next) (fun y => gs.length - y.1) (0, nt) ⟨Nat.zero_le _, by
          simp only [prt, Nat.mul_zero]
          exact SLx, by
          simp only [prt, Nat.mul_zero]
          exact ⟨x2, x3, hne, by omega, by omega, x4, by omega⟩⟩ ?_
      have hxod : xt % 2 = 1 := by omega
      clear x1 x2 x3 x4 hS hN hne hnl hnx hxt2
      clear X hp
      rintro ⟨y, nt⟩ t hp hy ⟨hS, hN, hne, hnl, hnx, hxb, hxl⟩
      simp only at hy hS hN hne hnl hnx hxb hxl
      first | simp only [updS] | simp only [updL, Nat.reduceAdd]
      by_cases hy2 : y < gs.length
      · have hgy := hg _ (mem_getD hy2 id)
        repeat (first | refine S0 ?_ | refine S1 ?_ | refine S2 ?_ | refine S3 ?_ | refine S4 ?_ | refine S5 ?_ | refine S6 ?_ | refine S7 ?_ | refine S8 ?_ | refine S10 ?_ | refine S11 ?_ | refine S13 ?_ | refine S15 ?_ | refine S16 ?_ | refine S19 ?_ | refine S20 ?_ | refine S21 ?_ | refine S22 ?_ | refine S23 ?_ | refine S25 ?_ | refine S26 ?_ | refine S30 ?_ | refine S34 ?_ | refine S36 ?_ | refine S45 ?_ | refine S46 ?_ | refine S48 ?_ | refine S49 ?_ | refine S51 ?_ | refine S63 ?_ | refine S66 ?_ | refine S68 ?_ | refine S69 ?_ | refine S88 ?_ | refine S89 ?_ | refine S90 ?_ | refine S92 ?_)
        refine AW.ldl EVx rfl (p := pli (tabN n (gs.getD y id))) (gL_at hy2) ?_
        repeat (first | refine S0 ?_ | refine S1 ?_ | refine S2 ?_ | refine S3 ?_ | refine S4 ?_ | refine S5 ?_ | refine S6 ?_ | refine S7 ?_ | refine S8 ?_ | refine S10 ?_ | refine S11 ?_ | refine S13 ?_ | refine S15 ?_ | refine S16 ?_ | refine S19 ?_ | refine S20 ?_ | refine S21 ?_ | refine S22 ?_ | refine S23 ?_ | refine S25 ?_ | refine S26 ?_ | refine S30 ?_ | refine S34 ?_ | refine S36 ?_ | refine S45 ?_ | refine S46 ?_ | refine S48 ?_ | refine S49 ?_ | refine S51 ?_ | refine S63 ?_ | refine S66 ?_ | refine S68 ?_ | refine S69 ?_ | refine S88 ?_ | refine S89 ?_ | refine S90 ?_ | refine S92 ?_)
        refine CW.loopS (fun z : Nat × Nat => z.1 ≤ 2) (fun z => [(0, pint n), (1, .lst c 1 gs.length (gL n gs)), (5, .mref 1), (7, .ref z.2 0 2 ((prt n gs x (bfs n gs (a + k)) (2 * y + z.1)).length - b)), (31, .lst false 2 m (cN n ((bfs n gs a).drop a))), (32, pint m), (33, pint k), (9, .ptr xt 0), (37, .lst c 1 gs.length (gL n gs)), (38, pint gs.length), (39, pint y), (10, pint y), (11, pli (tabN n (gs.getD y id))), (44, .lst true 1 2 [pint 1, pint (-1)]), (45, pint 2), (46, pint z.1)])
          (fun z hp => hp.sp 1 = some (.gmap .int (kN n (prt n gs x (bfs n gs (a + k)) (2 * y + z.1))) (vN n (prt n gs x (bfs n gs (a + k)) (2 * y + z.1)))) ∧ hp.blk z.2 = some (cN n ((prt n gs x (bfs n gs (a + k)) (2 * y + z.1)).drop b)) ∧ z.2 % 2 = 0 ∧ z.2 < 2 * hp.next ∧ 1 ≤ hp.next ∧ hp.blk xt = some [pli (tabN n x.1), wv x.2] ∧ xt < 2 * hp.next) (fun z => 2 - z.1) (0, nt) ⟨Nat.zero_le _, SLx, ⟨hS, hN, hne, hnl, hnx, hxb, hxl⟩⟩ ?_
        clear hS hN hne hnl hnx hxb hxl
        clear hp
        rintro ⟨z, nt⟩ t hp hz ⟨hS, hN, hne, hnl, hnx, hxb, hxl⟩
        simp only at hz hS hN hne hnl hnx hxb hxl
        first | simp only [updS] | simp only [updL, Nat.reduceAdd]
        rcases (show z = 0 ∨ z = 1 ∨ z = 2 by omega) with rfl | rfl | rfl
        · have elt : (ltr n gs (2 * y + 0)).2 = gs.getD y id := by unfold ltr; rw [if_pos (by omega), show (2 * y + 0) / 2 = y by omega]
          have elc : (ltr n gs (2 * y + 0)).1 = (y : Int) + 1 := by unfold ltr; rw [if_pos (by omega), show (2 * y + 0) / 2 = y by omega]
          have kA : SC Try.prog 27 [pli (tabN n x.1), pli (tabN n (gs.getD y id))] (pli (tabN n (cmp x.1 (ltr n gs (2 * y + 0)).2))) := by rw [elt]; exact after_p hxo.1 hn
          repeat (first | refine S0 ?_ | refine S1 ?_ | refine S2 ?_ | refine S3 ?_ | refine S4 ?_ | refine S5 ?_ | refine S6 ?_ | refine S7 ?_ | refine S8 ?_ | refine S10 ?_ | refine S11 ?_ | refine S13 ?_ | refine S15 ?_ | refine S16 ?_ | refine S19 ?_ | refine S20 ?_ | refine S21 ?_ | refine S22 ?_ | refine S23 ?_ | refine S25 ?_ | refine S26 ?_ | refine S30 ?_ | refine S34 ?_ | refine S36 ?_ | refine S45 ?_ | refine S46 ?_ | refine S48 ?_ | refine S49 ?_ | refine S51 ?_ | refine S63 ?_ | refine S66 ?_ | refine S68 ?_ | refine S69 ?_ | refine S88 ?_ | refine S89 ?_ | refine S90 ?_ | refine S92 ?_)
          refine Scall (args := [pli (tabN n x.1), pli (tabN n (gs.getD y id))]) kA ?_

          obtain ⟨lt1, lt2⟩ := ltr_ok hg (show 2 * y + 0 < 2 * gs.length by omega)
          have hpp := hxo.1.mul lt1
          have hBp := hB.prt hg hxo hxw (2 * y + 0) (by omega)
          have hll := bfs_len hn hg hBp
          have kN2 := number_s hpp hn
          have hPl := prt_len n gs x (bfs n gs (a + k)) (2 * y + 0)
          generalize hq : cmp x.1 (ltr n gs (2 * y + 0)).2 = q at *
          generalize hPp : prt n gs x (bfs n gs (a + k)) (2 * y + 0) = Pp at *
          have hP1 : prt n gs x (bfs n gs (a + k)) (2 * y + 1) = stp n x (ltr n gs (2 * y + 0)) Pp := by rw [← hPp]; rfl
          unfold stp at hP1
          rw [hq] at hP1
          repeat (first | refine S0 ?_ | refine S1 ?_ | refine S2 ?_ | refine S3 ?_ | refine S4 ?_ | refine S5 ?_ | refine S6 ?_ | refine S7 ?_ | refine S8 ?_ | refine S10 ?_ | refine S11 ?_ | refine S13 ?_ | refine S15 ?_ | refine S16 ?_ | refine S19 ?_ | refine S20 ?_ | refine S21 ?_ | refine S22 ?_ | refine S23 ?_ | refine S25 ?_ | refine S26 ?_ | refine S30 ?_ | refine S34 ?_ | refine S36 ?_ | refine S45 ?_ | refine S46 ?_ | refine S48 ?_ | refine S49 ?_ | refine S51 ?_ | refine S63 ?_ | refine S66 ?_ | refine S68 ?_ | refine S69 ?_ | refine S88 ?_ | refine S89 ?_ | refine S90 ?_ | refine S92 ?_)
          refine Scall (args := [pli (tabN n q)]) kN2 ?_
          repeat (first | refine S0 ?_ | refine S1 ?_ | refine S2 ?_ | refine S3 ?_ | refine S4 ?_ | refine S5 ?_ | refine S6 ?_ | refine S7 ?_ | refine S8 ?_ | refine S10 ?_ | refine S11 ?_ | refine S13 ?_ | refine S15 ?_ | refine S16 ?_ | refine S19 ?_ | refine S20 ?_ | refine S21 ?_ | refine S22 ?_ | refine S23 ?_ | refine S25 ?_ | refine S26 ?_ | refine S30 ?_ | refine S34 ?_ | refine S36 ?_ | refine S45 ?_ | refine S46 ?_ | refine S48 ?_ | refine S49 ?_ | refine S51 ?_ | refine S63 ?_ | refine S66 ?_ | refine S68 ?_ | refine S69 ?_ | refine S88 ?_ | refine S89 ?_ | refine S90 ?_ | refine S92 ?_)
          by_cases hkn : known n Pp q = true
          · have hmem := (known_iff hBp hpp).1 hkn
            have hmem2 := (kN_mem hBp hpp).2 hmem
            obtain ⟨x', _, _, hx'⟩ := vN_get (n := n) (zp := .agg [.lst true 0 0 [], .lst true 0 0 []]) hBp hpp hmem
            rw [hx']
            rw [if_pos hkn] at hP1
            refine AW.staR (r := [pli (tabN n x'.1), wv x'.2]) EVx (by first | exact Or.inl rfl | exact Or.inr ⟨rfl, HP.tok_even _⟩ | exact Or.inr (Or.inl ⟨rfl, HP.tok_even _⟩) | exact Or.inr (Or.inr ⟨rfl, HP.tok_odd _⟩) | exact Or.inr (Or.inl rfl) | exact Or.inr (Or.inr (Or.inl rfl)) | exact Or.inr (Or.inr (Or.inr (Or.inl ⟨rfl, HP.tok_odd _⟩))) | exact Or.inr (Or.inr (Or.inr (Or.inr ⟨rfl, HP.tok_even _⟩))) | exact Or.inr (Or.inr (Or.inr (Or.inr ⟨rfl, by assumption⟩))) | exact Or.inr ⟨rfl, by assumption⟩ | exact Or.inr (Or.inl ⟨rfl, by assumption⟩) | exact Or.inr (Or.inr ⟨rfl, by assumption⟩) | exact Or.inr (Or.inr (Or.inr (Or.inl ⟨rfl, by assumption⟩))) | exact Or.inr (Or.inr (Or.inl ⟨rfl, HP.tok_odd _⟩)) | exact Or.inr (Or.inr (Or.inl ⟨rfl, by assumption⟩)) | exact Or.inr (Or.inr (Or.inr rfl)) | exact Or.inr (Or.inr rfl) | exact Or.inr rfl) EVx rfl (HP.add_same _ _ _) rfl (by first | omega | (simp only [ints_length, bls_length, List.length_map, List.length_append, List.length_set, List.length_cons, List.length_nil, Int.toNat_natCast]; omega)) el_one rfl ?_
            repeat (first | refine S0 ?_ | refine S1 ?_ | refine S2 ?_ | refine S3 ?_ | refine S4 ?_ | refine S5 ?_ | refine S6 ?_ | refine S7 ?_ | refine S8 ?_ | refine S10 ?_ | refine S11 ?_ | refine S13 ?_ | refine S15 ?_ | refine S16 ?_ | refine S19 ?_ | refine S20 ?_ | refine S21 ?_ | refine S22 ?_ | refine S23 ?_ | refine S25 ?_ | refine S26 ?_ | refine S30 ?_ | refine S34 ?_ | refine S36 ?_ | refine S45 ?_ | refine S46 ?_ | refine S48 ?_ | refine S49 ?_ | refine S51 ?_ | refine S63 ?_ | refine S66 ?_ | refine S68 ?_ | refine S69 ?_ | refine S88 ?_ | refine S89 ?_ | refine S90 ?_ | refine S92 ?_)
            refine ⟨(1, nt), by simp only; omega, by simp only; rw [hP1]; exact SLx, ?_, by simp only; omega⟩
            simp only
            rw [hP1]
            have ht : hp.tok true = 2 * hp.next + 1 := rfl
            exact ⟨hS, (HP.set_other _ _ (by omega)).trans ((HP.add_other _ _ _ (by omega)).trans hN), hne, by show nt < 2 * (hp.next + 1); omega, by show 1 ≤ hp.next + 1; omega, (HP.set_other _ _ (by omega)).trans ((HP.add_other _ _ _ (by omega)).trans hxb), by show xt < 2 * (hp.next + 1); omega⟩
          · have hnm : q ∉ Pp.map (·.1) := fun h => hkn ((known_iff hBp hpp).2 h)
            have hnm2 : [((number (tabN n q) : Nat) : Int)] ∉ kN n Pp := fun h => hnm ((kN_mem hBp hpp).1 h)
            rw [vN_none hnm2]
            rw [if_neg hkn] at hP1
            repeat (first | refine S0 ?_ | refine S1 ?_ | refine S2 ?_ | refine S3 ?_ | refine S4 ?_ | refine S5 ?_ | refine S6 ?_ | refine S7 ?_ | refine S8 ?_ | refine S10 ?_ | refine S11 ?_ | refine S13 ?_ | refine S15 ?_ | refine S16 ?_ | refine S19 ?_ | refine S20 ?_ | refine S21 ?_ | refine S22 ?_ | refine S23 ?_ | refine S25 ?_ | refine S26 ?_ | refine S30 ?_ | refine S34 ?_ | refine S36 ?_ | refine S45 ?_ | refine S46 ?_ | refine S48 ?_ | refine S49 ?_ | refine S51 ?_ | refine S63 ?_ | refine S66 ?_ | refine S68 ?_ | refine S69 ?_ | refine S88 ?_ | refine S89 ?_ | refine S90 ?_ | refine S92 ?_)
            obtain ⟨Y, hY⟩ : ∃ Y, Y = (hp.add true [.lst true 0 0 [], .lst true 0 0 []]).set (hp.tok true) [.lst true 0 0 [], .lst true 0 0 []] := ⟨_, rfl⟩
            have ht : hp.tok true = 2 * hp.next + 1 := rfl
            have y1 : Y.next = hp.next + 1 := by rw [hY]; rfl
            have y2 : Y.sp 1 = some (.gmap .int (kN n Pp) (vN n Pp)) := by rw [hY]; exact hS
            have y3 : Y.blk nt = some (cN n (Pp.drop b)) := by rw [hY]; exact (HP.set_other _ _ (by omega)).trans ((HP.add_other _ _ _ (by omega)).trans hN)
            have y4 : Y.blk xt = some [pli (tabN n x.1), wv x.2] := by rw [hY]; exact (HP.set_other _ _ (by omega)).trans ((HP.add_other _ _ _ (by omega)).trans hxb)
            rw [← hY]
            clear hY ht hS hN hxb
            refine Scallo (args := [wv x.2]) (clone_w (by omega)) ?_
            iterate 11 (first | refine S0 ?_ | refine S1 ?_ | refine S2 ?_ | refine S3 ?_ | refine S4 ?_ | refine S5 ?_ | refine S6 ?_ | refine S7 ?_ | refine S8 ?_ | refine S10 ?_ | refine S11 ?_ | refine S13 ?_ | refine S15 ?_ | refine S16 ?_ | refine S19 ?_ | refine S20 ?_ | refine S21 ?_ | refine S22 ?_ | refine S23 ?_ | refine S25 ?_ | refine S26 ?_ | refine S30 ?_ | refine S34 ?_ | refine S36 ?_ | refine S45 ?_ | refine S46 ?_ | refine S48 ?_ | refine S49 ?_ | refine S51 ?_ | refine S63 ?_ | refine S66 ?_ | refine S68 ?_ | refine S69 ?_ | refine S88 ?_ | refine S89 ?_ | refine S90 ?_ | refine S92 ?_)
            rw [show 1 * ((y : Int) + 1) = (ltr n gs (2 * y + 0)).1 by rw [elc]; omega]
            generalize hcc : (ltr n gs (2 * y + 0)).1 = cc at *
            obtain ⟨W, hW⟩ : ∃ W, W = (Y.add false (ints x.2)).tok false := ⟨_, rfl⟩
            have hW2 : W = 2 * (hp.next + 2) := by rw [hW, HP.tokF]; show 2 * (Y.next + 1) = _; rw [y1]
            obtain ⟨V, hV⟩ : ∃ V, V = (((Y.add false (ints x.2)).kill (Y.tok false)).add false (ints (x.2 ++ [cc]))).tok true := ⟨_, rfl⟩
            have hV2 : V = 2 * (hp.next + 3) + 1 := by rw [hV, HP.tokT]; show 2 * (Y.next + 1 + 1) + 1 = _; rw [y1]
            obtain ⟨Z, hZ⟩ : ∃ Z, Z = ((((Y.add false (ints x.2)).kill (Y.tok false)).add false (ints (x.2 ++ [cc]))).add true [.lst true 0 0 [], .lst true 0 0 []]).set ((((Y.add false (ints x.2)).kill (Y.tok false)).add false (ints (x.2 ++ [cc]))).tok true) [pli (tabN n q), .ref ((Y.add false (ints x.2)).tok false) 0 1 (x.2.length + 1)] := ⟨_, rfl⟩
            rw [← hZ, ← hW, ← hV]
            rw [← hV, ← hW] at hZ
            have hYt : Y.tok false = 2 * (hp.next + 1) := by rw [HP.tokF, y1]
            have hWt : ((Y.add false (ints x.2)).kill (Y.tok false)).tok false = W := hW.symm
            have ob : ∀ t, t ≠ V → t ≠ W → t < 2 * (hp.next + 1) → Z.blk t = Y.blk t := fun t h1 h2 h3 => by
              rw [hZ]
              exact (HP.set_other _ _ h1).trans ((HP.add_other _ _ _ (by rw [← hV]; exact h1)).trans ((HP.add_other _ _ _ (by rw [hWt]; exact h2)).trans ((HP.kill_other _ (by rw [hYt]; omega)).trans (HP.add_other _ _ _ (by rw [hYt]; omega)))))
            have z1 : Z.next = hp.next + 4 := by rw [hZ]; show Y.next + 1 + 1 + 1 = _; rw [y1]
            have z2 : Z.sp 1 = some (.gmap .int (kN n Pp) (vN n Pp)) := by rw [hZ]; exact y2
            have z3 := (ob nt (by omega) (by omega) (by omega)).trans y3
            have z4 := (ob xt (by omega) (by omega) (by omega)).trans y4
            have z5 : Z.blk V = some [pli (tabN n q), .ref W 0 1 (x.2.length + 1)] := by rw [hZ]; exact HP.set_same _ _ _
            have z6 : Z.blk W = some (ints (x.2 ++ [cc])) := by
              rw [hZ]
              refine (HP.set_other _ _ (by omega)).trans ((HP.add_other _ _ _ (by rw [← hV]; omega)).trans ?_)
              have := HP.add_same ((Y.add false (ints x.2)).kill (Y.tok false)) false (ints (x.2 ++ [cc]))
              rwa [hWt] at this
            clear hZ ob hW hV hWt hYt y1 y2 y3 y4
            have hil : (ints (x.2 ++ [cc])).length = x.2.length + 1 := by simp
            refine CW.freezeC V 1 (tk := W) (r := wv (x.2 ++ [cc])) z5 rfl z6 (by rw [hil]; omega) (by omega) (by rw [wv_app, List.drop_zero, Nat.mul_one, List.take_of_length_le (by rw [hil]; exact Nat.le_refl _)]; unfold pli; simp) ?_
            obtain ⟨U, hU⟩ : ∃ U, U = (Z.kill W).set V ([pli (tabN n q), PV.ref W 0 1 (x.2.length + 1)].set 1 (wv (x.2 ++ [cc]))) := ⟨_, rfl⟩
            rw [← hU]
            have u1 : U.next = hp.next + 4 := by rw [hU]; exact z1
            have u2 : U.sp 1 = some (.gmap .int (kN n Pp) (vN n Pp)) := by rw [hU]; exact z2
            have u3 : U.blk nt = some (cN n (Pp.drop b)) := by rw [hU]; exact (HP.set_other _ _ (by omega)).trans ((HP.kill_other _ (by omega)).trans z3)
            have u4 : U.blk xt = some [pli (tabN n x.1), wv x.2] := by rw [hU]; exact (HP.set_other _ _ (by omega)).trans ((HP.kill_other _ (by omega)).trans z4)
            have u5 : U.blk V = some [pli (tabN n q), wv (x.2 ++ [cc])] := by rw [hU]; exact HP.set_same _ _ _
            clear hU z1 z2 z3 z4 z5 z6
            have hkk : insK (kN n Pp) [((number (tabN n q) : Nat) : Int)] = kN n (Pp ++ [(q, x.2 ++ [cc])]) := by unfold insK; rw [if_neg hnm2]; simp [kN]
            have hvv : insP (kN n Pp) (vN n Pp) [((number (tabN n q) : Nat) : Int)] (.agg [pli (tabN n q), wv (x.2 ++ [cc])]) = vN n (Pp ++ [(q, x.2 ++ [cc])]) := by unfold insP; rw [if_neg hnm2]; simp [vN]
            repeat (first | refine S0 ?_ | refine S1 ?_ | refine S2 ?_ | refine S3 ?_ | refine S4 ?_ | refine S5 ?_ | refine S6 ?_ | refine S7 ?_ | refine S8 ?_ | refine S10 ?_ | refine S11 ?_ | refine S13 ?_ | refine S15 ?_ | refine S16 ?_ | refine S19 ?_ | refine S20 ?_ | refine S21 ?_ | refine S22 ?_ | refine S23 ?_ | refine S25 ?_ | refine S26 ?_ | refine S30 ?_ | refine S34 ?_ | refine S36 ?_ | refine S45 ?_ | refine S46 ?_ | refine S48 ?_ | refine S49 ?_ | refine S51 ?_ | refine S63 ?_ | refine S66 ?_ | refine S68 ?_ | refine S69 ?_ | refine S88 ?_ | refine S89 ?_ | refine S90 ?_ | refine S92 ?_)
            refine Scall (args := [pli (tabN n q)]) kN2 ?_
            repeat (first | refine S0 ?_ | refine S1 ?_ | refine S2 ?_ | refine S3 ?_ | refine S4 ?_ | refine S5 ?_ | refine S6 ?_ | refine S7 ?_ | refine S8 ?_ | refine S10 ?_ | refine S11 ?_ | refine S13 ?_ | refine S15 ?_ | refine S16 ?_ | refine S19 ?_ | refine S20 ?_ | refine S21 ?_ | refine S22 ?_ | refine S23 ?_ | refine S25 ?_ | refine S26 ?_ | refine S30 ?_ | refine S34 ?_ | refine S36 ?_ | refine S45 ?_ | refine S46 ?_ | refine S48 ?_ | refine S49 ?_ | refine S51 ?_ | refine S63 ?_ | refine S66 ?_ | refine S68 ?_ | refine S69 ?_ | refine S88 ?_ | refine S89 ?_ | refine S90 ?_ | refine S92 ?_)
            rw [hkk, hvv]
            have hcp := cN_len n (Pp.drop b)
            rw [List.length_drop] at hcp
            have hbP : b ≤ Pp.length := by omega
            refine AW.app (r := cN n ((Pp ++ [(q, x.2 ++ [cc])]).drop b)) (q := Pp.length - b + 1) EVx (by first | exact Or.inl rfl | exact Or.inr ⟨rfl, HP.tok_even _⟩ | exact Or.inr (Or.inl ⟨rfl, HP.tok_even _⟩) | exact Or.inr (Or.inr ⟨rfl, HP.tok_odd _⟩) | exact Or.inr (Or.inl rfl) | exact Or.inr (Or.inr (Or.inl rfl)) | exact Or.inr (Or.inr (Or.inr (Or.inl ⟨rfl, HP.tok_odd _⟩))) | exact Or.inr (Or.inr (Or.inr (Or.inr ⟨rfl, HP.tok_even _⟩))) | exact Or.inr (Or.inr (Or.inr (Or.inr ⟨rfl, by assumption⟩))) | exact Or.inr ⟨rfl, by assumption⟩ | exact Or.inr (Or.inl ⟨rfl, by assumption⟩) | exact Or.inr (Or.inr ⟨rfl, by assumption⟩) | exact Or.inr (Or.inr (Or.inr (Or.inl ⟨rfl, by assumption⟩))) | exact Or.inr (Or.inr (Or.inl ⟨rfl, HP.tok_odd _⟩)) | exact Or.inr (Or.inr (Or.inl ⟨rfl, by assumption⟩)) | exact Or.inr (Or.inr (Or.inr rfl)) | exact Or.inr (Or.inr rfl) | exact Or.inr rfl) rfl u3 (by first | exact ⟨rfl, rfl, .inr rfl⟩ | exact ⟨rfl, rfl, .inl rfl⟩ | (simp only [evA, upd, putA, Nat.reduceEqDiff, ↓reduceIte]; first | exact ⟨rfl, rfl, .inr rfl⟩ | exact ⟨rfl, rfl, .inl rfl⟩)) (by rw [hcp]; omega) el_one (by first | omega | (simp only [ints_length, bls_length, List.length_map, List.length_append, List.length_set, List.length_cons, List.length_nil, Int.toNat_natCast]; omega)) (by
              rw [List.drop_zero, List.take_of_length_le (by rw [hcp]; omega), List.drop_append_of_le_length hbP, cN_app]
              simp [cN]) rfl ?_
            repeat (first | refine S0 ?_ | refine S1 ?_ | refine S2 ?_ | refine S3 ?_ | refine S4 ?_ | refine S5 ?_ | refine S6 ?_ | refine S7 ?_ | refine S8 ?_ | refine S10 ?_ | refine S11 ?_ | refine S13 ?_ | refine S15 ?_ | refine S16 ?_ | refine S19 ?_ | refine S20 ?_ | refine S21 ?_ | refine S22 ?_ | refine S23 ?_ | refine S25 ?_ | refine S26 ?_ | refine S30 ?_ | refine S34 ?_ | refine S36 ?_ | refine S45 ?_ | refine S46 ?_ | refine S48 ?_ | refine S49 ?_ | refine S51 ?_ | refine S63 ?_ | refine S66 ?_ | refine S68 ?_ | refine S69 ?_ | refine S88 ?_ | refine S89 ?_ | refine S90 ?_ | refine S92 ?_)
            rw [show (U.setS 1 (SpC.gmap KT.int (kN n (Pp ++ [(q, x.2 ++ [cc])])) (vN n (Pp ++ [(q, x.2 ++ [cc])])))).tok false = 2 * (hp.next + 4) by rw [HP.tokF]; show 2 * U.next = _; rw [u1]]
            have tkU : ((U.setS 1 (SpC.gmap KT.int (kN n (Pp ++ [(q, x.2 ++ [cc])])) (vN n (Pp ++ [(q, x.2 ++ [cc])])))).kill nt).tok false = 2 * (hp.next + 4) := by rw [HP.tokF]; show 2 * U.next = _; rw [u1]
            refine ⟨(1, 2 * (hp.next + 4)), by simp only; omega, by simp only; rw [hP1, List.length_append, List.length_singleton, show Pp.length + 1 - b = Pp.length - b + 1 by omega]; exact SLx, ?_, by simp only; omega⟩
            simp only
            rw [hP1]
            refine ⟨HP.setS_same U 1 (SpC.gmap KT.int (kN n (Pp ++ [(q, x.2 ++ [cc])])) (vN n (Pp ++ [(q, x.2 ++ [cc])]))), ?_, by omega, ?_, ?_, ?_, ?_⟩
            · have := HP.add_same ((U.setS 1 (SpC.gmap KT.int (kN n (Pp ++ [(q, x.2 ++ [cc])])) (vN n (Pp ++ [(q, x.2 ++ [cc])])))).kill nt) false (cN n ((Pp ++ [(q, x.2 ++ [cc])]).drop b))
              rwa [tkU] at this
            · show 2 * (hp.next + 4) < 2 * (U.next + 1); omega
            · show 1 ≤ U.next + 1; omega
            · exact (HP.add_other _ _ _ (by rw [tkU]; omega)).trans ((HP.kill_other _ (by omega)).trans u4)
            · show xt < 2 * (U.next + 1); omega

        · have elt : (ltr n gs (2 * y + 1)).2 = iv n (gs.getD y id) := by unfold ltr; rw [if_neg (by omega), show (2 * y + 1) / 2 = y by omega]
          have elc : (ltr n gs (2 * y + 1)).1 = -((y : Int) + 1) := by unfold ltr; rw [if_neg (by omega), show (2 * y + 1) / 2 = y by omega]
          have kA : SC Try.prog 27 [pli (tabN n x.1), pli (tabN n (iv n (gs.getD y id)))] (pli (tabN n (cmp x.1 (ltr n gs (2 * y + 1)).2))) := by rw [elt]; exact after_p hxo.1 hn
          repeat (first | refine S0 ?_ | refine S1 ?_ | refine S2 ?_ | refine S3 ?_ | refine S4 ?_ | refine S5 ?_ | refine S6 ?_ | refine S7 ?_ | refine S8 ?_ | refine S10 ?_ | refine S11 ?_ | refine S13 ?_ | refine S15 ?_ | refine S16 ?_ | refine S19 ?_ | refine S20 ?_ | refine S21 ?_ | refine S22 ?_ | refine S23 ?_ | refine S25 ?_ | refine S26 ?_ | refine S30 ?_ | refine S34 ?_ | refine S36 ?_ | refine S45 ?_ | refine S46 ?_ | refine S48 ?_ | refine S49 ?_ | refine S51 ?_ | refine S63 ?_ | refine S66 ?_ | refine S68 ?_ | refine S69 ?_ | refine S88 ?_ | refine S89 ?_ | refine S90 ?_ | refine S92 ?_)
          refine Scall (args := [pli (tabN n (gs.getD y id))]) (rback_p hgy hn) ?_
          repeat (first | refine S0 ?_ | refine S1 ?_ | refine S2 ?_ | refine S3 ?_ | refine S4 ?_ | refine S5 ?_ | refine S6 ?_ | refine S7 ?_ | refine S8 ?_ | refine S10 ?_ | refine S11 ?_ | refine S13 ?_ | refine S15 ?_ | refine S16 ?_ | refine S19 ?_ | refine S20 ?_ | refine S21 ?_ | refine S22 ?_ | refine S23 ?_ | refine S25 ?_ | refine S26 ?_ | refine S30 ?_ | refine S34 ?_ | refine S36 ?_ | refine S45 ?_ | refine S46 ?_ | refine S48 ?_ | refine S49 ?_ | refine S51 ?_ | refine S63 ?_ | refine S66 ?_ | refine S68 ?_ | refine S69 ?_ | refine S88 ?_ | refine S89 ?_ | refine S90 ?_ | refine S92 ?_)
          refine Scall (args := [pli (tabN n x.1), pli (tabN n (iv n (gs.getD y id)))]) kA ?_

          obtain ⟨lt1, lt2⟩ := ltr_ok hg (show 2 * y + 1 < 2 * gs.length by omega)
          have hpp := hxo.1.mul lt1
          have hBp := hB.prt hg hxo hxw (2 * y + 1) (by omega)
          have hll := bfs_len hn hg hBp
          have kN2 := number_s hpp hn
          have hPl := prt_len n gs x (bfs n gs (a + k)) (2 * y + 1)
          generalize hq : cmp x.1 (ltr n gs (2 * y + 1)).2 = q at *
          generalize hPp : prt n gs x (bfs n gs (a + k)) (2 * y + 1) = Pp at *
          have hP1 : prt n gs x (bfs n gs (a + k)) (2 * y + 2) = stp n x (ltr n gs (2 * y + 1)) Pp := by rw [← hPp]; rfl
          unfold stp at hP1
          rw [hq] at hP1
          repeat (first | refine S0 ?_ | refine S1 ?_ | refine S2 ?_ | refine S3 ?_ | refine S4 ?_ | refine S5 ?_ | refine S6 ?_ | refine S7 ?_ | refine S8 ?_ | refine S10 ?_ | refine S11 ?_ | refine S13 ?_ | refine S15 ?_ | refine S16 ?_ | refine S19 ?_ | refine S20 ?_ | refine S21 ?_ | refine S22 ?_ | refine S23 ?_ | refine S25 ?_ | refine S26 ?_ | refine S30 ?_ | refine S34 ?_ | refine S36 ?_ | refine S45 ?_ | refine S46 ?_ | refine S48 ?_ | refine S49 ?_ | refine S51 ?_ | refine S63 ?_ | refine S66 ?_ | refine S68 ?_ | refine S69 ?_ | refine S88 ?_ | refine S89 ?_ | refine S90 ?_ | refine S92 ?_)
          refine Scall (args := [pli (tabN n q)]) kN2 ?_
          repeat (first | refine S0 ?_ | refine S1 ?_ | refine S2 ?_ | refine S3 ?_ | refine S4 ?_ | refine S5 ?_ | refine S6 ?_ | refine S7 ?_ | refine S8 ?_ | refine S10 ?_ | refine S11 ?_ | refine S13 ?_ | refine S15 ?_ | refine S16 ?_ | refine S19 ?_ | refine S20 ?_ | refine S21 ?_ | refine S22 ?_ | refine S23 ?_ | refine S25 ?_ | refine S26 ?_ | refine S30 ?_ | refine S34 ?_ | refine S36 ?_ | refine S45 ?_ | refine S46 ?_ | refine S48 ?_ | refine S49 ?_ | refine S51 ?_ | refine S63 ?_ | refine S66 ?_ | refine S68 ?_ | refine S69 ?_ | refine S88 ?_ | refine S89 ?_ | refine S90 ?_ | refine S92 ?_)
          by_cases hkn : known n Pp q = true
          · have hmem := (known_iff hBp hpp).1 hkn
            have hmem2 := (kN_mem hBp hpp).2 hmem
            obtain ⟨x', _, _, hx'⟩ := vN_get (n := n) (zp := .agg [.lst true 0 0 [], .lst true 0 0 []]) hBp hpp hmem
            rw [hx']
            rw [if_pos hkn] at hP1
            refine AW.staR (r := [pli (tabN n x'.1), wv x'.2]) EVx (by first | exact Or.inl rfl | exact Or.inr ⟨rfl, HP.tok_even _⟩ | exact Or.inr (Or.inl ⟨rfl, HP.tok_even _⟩) | exact Or.inr (Or.inr ⟨rfl, HP.tok_odd _⟩) | exact Or.inr (Or.inl rfl) | exact Or.inr (Or.inr (Or.inl rfl)) | exact Or.inr (Or.inr (Or.inr (Or.inl ⟨rfl, HP.tok_odd _⟩))) | exact Or.inr (Or.inr (Or.inr (Or.inr ⟨rfl, HP.tok_even _⟩))) | exact Or.inr (Or.inr (Or.inr (Or.inr ⟨rfl, by assumption⟩))) | exact Or.inr ⟨rfl, by assumption⟩ | exact Or.inr (Or.inl ⟨rfl, by assumption⟩) | exact Or.inr (Or.inr ⟨rfl, by assumption⟩) | exact Or.inr (Or.inr (Or.inr (Or.inl ⟨rfl, by assumption⟩))) | exact Or.inr (Or.inr (Or.inl ⟨rfl, HP.tok_odd _⟩)) | exact Or.inr (Or.inr (Or.inl ⟨rfl, by assumption⟩)) | exact Or.inr (Or.inr (Or.inr rfl)) | exact Or.inr (Or.inr rfl) | exact Or.inr rfl) EVx rfl (HP.add_same _ _ _) rfl (by first | omega | (simp only [ints_length, bls_length, List.length_map, List.length_append, List.length_set, List.length_cons, List.length_nil, Int.toNat_natCast]; omega)) el_one rfl ?_
            repeat (first | refine S0 ?_ | refine S1 ?_ | refine S2 ?_ | refine S3 ?_ | refine S4 ?_ | refine S5 ?_ | refine S6 ?_ | refine S7 ?_ | refine S8 ?_ | refine S10 ?_ | refine S11 ?_ | refine S13 ?_ | refine S15 ?_ | refine S16 ?_ | refine S19 ?_ | refine S20 ?_ | refine S21 ?_ | refine S22 ?_ | refine S23 ?_ | refine S25 ?_ | refine S26 ?_ | refine S30 ?_ | refine S34 ?_ | refine S36 ?_ | refine S45 ?_ | refine S46 ?_ | refine S48 ?_ | refine S49 ?_ | refine S51 ?_ | refine S63 ?_ | refine S66 ?_ | refine S68 ?_ | refine S69 ?_ | refine S88 ?_ | refine S89 ?_ | refine S90 ?_ | refine S92 ?_)
            refine ⟨(2, nt), by simp only; omega, by simp only; rw [hP1]; exact SLx, ?_, by simp only; omega⟩
            simp only
            rw [hP1]
            have ht : hp.tok true = 2 * hp.next + 1 := rfl
            exact ⟨hS, (HP.set_other _ _ (by omega)).trans ((HP.add_other _ _ _ (by omega)).trans hN), hne, by show nt < 2 * (hp.next + 1); omega, by show 1 ≤ hp.next + 1; omega, (HP.set_other _ _ (by omega)).trans ((HP.add_other _ _ _ (by omega)).trans hxb), by show xt < 2 * (hp.next + 1); omega⟩
          · have hnm : q ∉ Pp.map (·.1) := fun h => hkn ((known_iff hBp hpp).2 h)
            have hnm2 : [((number (tabN n q) : Nat) : Int)] ∉ kN n Pp := fun h => hnm ((kN_mem hBp hpp).1 h)
            rw [vN_none hnm2]
            rw [if_neg hkn] at hP1
            repeat (first | refine S0 ?_ | refine S1 ?_ | refine S2 ?_ | refine S3 ?_ | refine S4 ?_ | refine S5 ?_ | refine S6 ?_ | refine S7 ?_ | refine S8 ?_ | refine S10 ?_ | refine S11 ?_ | refine S13 ?_ | refine S15 ?_ | refine S16 ?_ | refine S19 ?_ | refine S20 ?_ | refine S21 ?_ | refine S22 ?_ | refine S23 ?_ | refine S25 ?_ | refine S26 ?_ | refine S30 ?_ | refine S34 ?_ | refine S36 ?_ | refine S45 ?_ | refine S46 ?_ | refine S48 ?_ | refine S49 ?_ | refine S51 ?_ | refine S63 ?_ | refine S66 ?_ | refine S68 ?_ | refine S69 ?_ | refine S88 ?_ | refine S89 ?_ | refine S90 ?_ | refine S92 ?_)
            obtain ⟨Y, hY⟩ : ∃ Y, Y = (hp.add true [.lst true 0 0 [], .lst true 0 0 []]).set (hp.tok true) [.lst true 0 0 [], .lst true 0 0 []] := ⟨_, rfl⟩
            have ht : hp.tok true = 2 * hp.next + 1 := rfl
            have y1 : Y.next = hp.next + 1 := by rw [hY]; rfl
            have y2 : Y.sp 1 = some (.gmap .int (kN n Pp) (vN n Pp)) := by rw [hY]; exact hS
            have y3 : Y.blk nt = some (cN n (Pp.drop b)) := by rw [hY]; exact (HP.set_other _ _ (by omega)).trans ((HP.add_other _ _ _ (by omega)).trans hN)
            have y4 : Y.blk xt = some [pli (tabN n x.1), wv x.2] := by rw [hY]; exact (HP.set_other _ _ (by omega)).trans ((HP.add_other _ _ _ (by omega)).trans hxb)
            rw [← hY]
            clear hY ht hS hN hxb
            refine Scallo (args := [wv x.2]) (clone_w (by omega)) ?_
            iterate 11 (first | refine S0 ?_ | refine S1 ?_ | refine S2 ?_ | refine S3 ?_ | refine S4 ?_ | refine S5 ?_ | refine S6 ?_ | refine S7 ?_ | refine S8 ?_ | refine S10 ?_ | refine S11 ?_ | refine S13 ?_ | refine S15 ?_ | refine S16 ?_ | refine S19 ?_ | refine S20 ?_ | refine S21 ?_ | refine S22 ?_ | refine S23 ?_ | refine S25 ?_ | refine S26 ?_ | refine S30 ?_ | refine S34 ?_ | refine S36 ?_ | refine S45 ?_ | refine S46 ?_ | refine S48 ?_ | refine S49 ?_ | refine S51 ?_ | refine S63 ?_ | refine S66 ?_ | refine S68 ?_ | refine S69 ?_ | refine S88 ?_ | refine S89 ?_ | refine S90 ?_ | refine S92 ?_)
            rw [show -1 * ((y : Int) + 1) = (ltr n gs (2 * y + 1)).1 by rw [elc]; omega]
            generalize hcc : (ltr n gs (2 * y + 1)).1 = cc at *
            obtain ⟨W, hW⟩ : ∃ W, W = (Y.add false (ints x.2)).tok false := ⟨_, rfl⟩
            have hW2 : W = 2 * (hp.next + 2) := by rw [hW, HP.tokF]; show 2 * (Y.next + 1) = _; rw [y1]
            obtain ⟨V, hV⟩ : ∃ V, V = (((Y.add false (ints x.2)).kill (Y.tok false)).add false (ints (x.2 ++ [cc]))).tok true := ⟨_, rfl⟩
            have hV2 : V = 2 * (hp.next + 3) + 1 := by rw [hV, HP.tokT]; show 2 * (Y.next + 1 + 1) + 1 = _; rw [y1]
            obtain ⟨Z, hZ⟩ : ∃ Z, Z = ((((Y.add false (ints x.2)).kill (Y.tok false)).add false (ints (x.2 ++ [cc]))).add true [.lst true 0 0 [], .lst true 0 0 []]).set ((((Y.add false (ints x.2)).kill (Y.tok false)).add false (ints (x.2 ++ [cc]))).tok true) [pli (tabN n q), .ref ((Y.add false (ints x.2)).tok false) 0 1 (x.2.length + 1)] := ⟨_, rfl⟩
            rw [← hZ, ← hW, ← hV]
            rw [← hV, ← hW] at hZ
            have hYt : Y.tok false = 2 * (hp.next + 1) := by rw [HP.tokF, y1]
            have hWt : ((Y.add false (ints x.2)).kill (Y.tok false)).tok false = W := hW.symm
            have ob : ∀ t, t ≠ V → t ≠ W → t < 2 * (hp.next + 1) → Z.blk t = Y.blk t := fun t h1 h2 h3 => by
              rw [hZ]
              exact (HP.set_other _ _ h1).trans ((HP.add_other _ _ _ (by rw [← hV]; exact h1)).trans ((HP.add_other _ _ _ (by rw [hWt]; exact h2)).trans ((HP.kill_other _ (by rw [hYt]; omega)).trans (HP.add_other _ _ _ (by rw [hYt]; omega)))))
            have z1 : Z.next = hp.next + 4 := by rw [hZ]; show Y.next + 1 + 1 + 1 = _; rw [y1]
            have z2 : Z.sp 1 = some (.gmap .int (kN n Pp) (vN n Pp)) := by rw [hZ]; exact y2
            have z3 := (ob nt (by omega) (by omega) (by omega)).trans y3
            have z4 := (ob xt (by omega) (by omega) (by omega)).trans y4
            have z5 : Z.blk V = some [pli (tabN n q), .ref W 0 1 (x.2.length + 1)] := by rw [hZ]; exact HP.set_same _ _ _
            have z6 : Z.blk W = some (ints (x.2 ++ [cc])) := by
              rw [hZ]
              refine (HP.set_other _ _ (by omega)).trans ((HP.add_other _ _ _ (by rw [← hV]; omega)).trans ?_)
              have := HP.add_same ((Y.add false (ints x.2)).kill (Y.tok false)) false (ints (x.2 ++ [cc]))
              rwa [hWt] at this
            clear hZ ob hW hV hWt hYt y1 y2 y3 y4
            have hil : (ints (x.2 ++ [cc])).length = x.2.length + 1 := by simp
            refine CW.freezeC V 1 (tk := W) (r := wv (x.2 ++ [cc])) z5 rfl z6 (by rw [hil]; omega) (by omega) (by rw [wv_app, List.drop_zero, Nat.mul_one, List.take_of_length_le (by rw [hil]; exact Nat.le_refl _)]; unfold pli; simp) ?_
            obtain ⟨U, hU⟩ : ∃ U, U = (Z.kill W).set V ([pli (tabN n q), PV.ref W 0 1 (x.2.length + 1)].set 1 (wv (x.2 ++ [cc]))) := ⟨_, rfl⟩
            rw [← hU]
            have u1 : U.next = hp.next + 4 := by rw [hU]; exact z1
            have u2 : U.sp 1 = some (.gmap .int (kN n Pp) (vN n Pp)) := by rw [hU]; exact z2
            have u3 : U.blk nt = some (cN n (Pp.drop b)) := by rw [hU]; exact (HP.set_other _ _ (by omega)).trans ((HP.kill_other _ (by omega)).trans z3)
            have u4 : U.blk xt = some [pli (tabN n x.1), wv x.2] := by rw [hU]; exact (HP.set_other _ _ (by omega)).trans ((HP.kill_other _ (by omega)).trans z4)
            have u5 : U.blk V = some [pli (tabN n q), wv (x.2 ++ [cc])] := by rw [hU]; exact HP.set_same _ _ _
            clear hU z1 z2 z3 z4 z5 z6
            have hkk : insK (kN n Pp) [((number (tabN n q) : Nat) : Int)] = kN n (Pp ++ [(q, x.2 ++ [cc])]) := by unfold insK; rw [if_neg hnm2]; simp [kN]
            have hvv : insP (kN n Pp) (vN n Pp) [((number (tabN n q) : Nat) : Int)] (.agg [pli (tabN n q), wv (x.2 ++ [cc])]) = vN n (Pp ++ [(q, x.2 ++ [cc])]) := by unfold insP; rw [if_neg hnm2]; simp [vN]
            repeat (first | refine S0 ?_ | refine S1 ?_ | refine S2 ?_ | refine S3 ?_ | refine S4 ?_ | refine S5 ?_ | refine S6 ?_ | refine S7 ?_ | refine S8 ?_ | refine S10 ?_ | refine S11 ?_ | refine S13 ?_ | refine S15 ?_ | refine S16 ?_ | refine S19 ?_ | refine S20 ?_ | refine S21 ?_ | refine S22 ?_ | refine S23 ?_ | refine S25 ?_ | refine S26 ?_ | refine S30 ?_ | refine S34 ?_ | refine S36 ?_ | refine S45 ?_ | refine S46 ?_ | refine S48 ?_ | refine S49 ?_ | refine S51 ?_ | refine S63 ?_ | refine S66 ?_ | refine S68 ?_ | refine S69 ?_ | refine S88 ?_ | refine S89 ?_ | refine S90 ?_ | refine S92 ?_)
            refine Scall (args := [pli (tabN n q)]) kN2 ?_
            repeat (first | refine S0 ?_ | refine S1 ?_ | refine S2 ?_ | refine S3 ?_ | refine S4 ?_ | refine S5 ?_ | refine S6 ?_ | refine S7 ?_ | refine S8 ?_ | refine S10 ?_ | refine S11 ?_ | refine S13 ?_ | refine S15 ?_ | refine S16 ?_ | refine S19 ?_ | refine S20 ?_ | refine S21 ?_ | refine S22 ?_ | refine S23 ?_ | refine S25 ?_ | refine S26 ?_ | refine S30 ?_ | refine S34 ?_ | refine S36 ?_ | refine S45 ?_ | refine S46 ?_ | refine S48 ?_ | refine S49 ?_ | refine S51 ?_ | refine S63 ?_ | refine S66 ?_ | refine S68 ?_ | refine S69 ?_ | refine S88 ?_ | refine S89 ?_ | refine S90 ?_ | refine S92 ?_)
            rw [hkk, hvv]
            have hcp := cN_len n (Pp.drop b)
            rw [List.length_drop] at hcp
            have hbP : b ≤ Pp.length := by omega
            refine AW.app (r := cN n ((Pp ++ [(q, x.2 ++ [cc])]).drop b)) (q := Pp.length - b + 1) EVx (by first | exact Or.inl rfl | exact Or.inr ⟨rfl, HP.tok_even _⟩ | exact Or.inr (Or.inl ⟨rfl, HP.tok_even _⟩) | exact Or.inr (Or.inr ⟨rfl, HP.tok_odd _⟩) | exact Or.inr (Or.inl rfl) | exact Or.inr (Or.inr (Or.inl rfl)) | exact Or.inr (Or.inr (Or.inr (Or.inl ⟨rfl, HP.tok_odd _⟩))) | exact Or.inr (Or.inr (Or.inr (Or.inr ⟨rfl, HP.tok_even _⟩))) | exact Or.inr (Or.inr (Or.inr (Or.inr ⟨rfl, by assumption⟩))) | exact Or.inr ⟨rfl, by assumption⟩ | exact Or.inr (Or.inl ⟨rfl, by assumption⟩) | exact Or.inr (Or.inr ⟨rfl, by assumption⟩) | exact Or.inr (Or.inr (Or.inr (Or.inl ⟨rfl, by assumption⟩))) | exact Or.inr (Or.inr (Or.inl ⟨rfl, HP.tok_odd _⟩)) | exact Or.inr (Or.inr (Or.inl ⟨rfl, by assumption⟩)) | exact Or.inr (Or.inr (Or.inr rfl)) | exact Or.inr (Or.inr rfl) | exact Or.inr rfl) rfl u3 (by first | exact ⟨rfl, rfl, .inr rfl⟩ | exact ⟨rfl, rfl, .inl rfl⟩ | (simp only [evA, upd, putA, Nat.reduceEqDiff, ↓reduceIte]; first | exact ⟨rfl, rfl, .inr rfl⟩ | exact ⟨rfl, rfl, .inl rfl⟩)) (by rw [hcp]; omega) el_one (by first | omega | (simp only [ints_length, bls_length, List.length_map, List.length_append, List.length_set, List.length_cons, List.length_nil, Int.toNat_natCast]; omega)) (by
              rw [List.drop_zero, List.take_of_length_le (by rw [hcp]; omega), List.drop_append_of_le_length hbP, cN_app]
              simp [cN]) rfl ?_
            repeat (first | refine S0 ?_ | refine S1 ?_ | refine S2 ?_ | refine S3 ?_ | refine S4 ?_ | refine S5 ?_ | refine S6 ?_ | refine S7 ?_ | refine S8 ?_ | refine S10 ?_ | refine S11 ?_ | refine S13 ?_ | refine S15 ?_ | refine S16 ?_ | refine S19 ?_ | refine S20 ?_ | refine S21 ?_ | refine S22 ?_ | refine S23 ?_ | refine S25 ?_ | refine S26 ?_ | refine S30 ?_ | refine S34 ?_ | refine S36 ?_ | refine S45 ?_ | refine S46 ?_ | refine S48 ?_ | refine S49 ?_ | refine S51 ?_ | refine S63 ?_ | refine S66 ?_ | refine S68 ?_ | refine S69 ?_ | refine S88 ?_ | refine S89 ?_ | refine S90 ?_ | refine S92 ?_)
            rw [show (U.setS 1 (SpC.gmap KT.int (kN n (Pp ++ [(q, x.2 ++ [cc])])) (vN n (Pp ++ [(q, x.2 ++ [cc])])))).tok false = 2 * (hp.next + 4) by rw [HP.tokF]; show 2 * U.next = _; rw [u1]]
            have tkU : ((U.setS 1 (SpC.gmap KT.int (kN n (Pp ++ [(q, x.2 ++ [cc])])) (vN n (Pp ++ [(q, x.2 ++ [cc])])))).kill nt).tok false = 2 * (hp.next + 4) := by rw [HP.tokF]; show 2 * U.next = _; rw [u1]
            refine ⟨(2, 2 * (hp.next + 4)), by simp only; omega, by simp only; rw [hP1, List.length_append, List.length_singleton, show Pp.length + 1 - b = Pp.length - b + 1 by omega]; exact SLx, ?_, by simp only; omega⟩
            simp only
            rw [hP1]
            refine ⟨HP.setS_same U 1 (SpC.gmap KT.int (kN n (Pp ++ [(q, x.2 ++ [cc])])) (vN n (Pp ++ [(q, x.2 ++ [cc])]))), ?_, by omega, ?_, ?_, ?_, ?_⟩
            · have := HP.add_same ((U.setS 1 (SpC.gmap KT.int (kN n (Pp ++ [(q, x.2 ++ [cc])])) (vN n (Pp ++ [(q, x.2 ++ [cc])])))).kill nt) false (cN n ((Pp ++ [(q, x.2 ++ [cc])]).drop b))
              rwa [tkU] at this
            · show 2 * (hp.next + 4) < 2 * (U.next + 1); omega
            · show 1 ≤ U.next + 1; omega
            · exact (HP.add_other _ _ _ (by rw [tkU]; omega)).trans ((HP.kill_other _ (by omega)).trans u4)
            · show xt < 2 * (U.next + 1); omega

        · repeat (first | refine S0 ?_ | refine S1 ?_ | refine S2 ?_ | refine S3 ?_ | refine S4 ?_ | refine S5 ?_ | refine S6 ?_ | refine S7 ?_ | refine S8 ?_ | refine S10 ?_ | refine S11 ?_ | refine S13 ?_ | refine S15 ?_ | refine S16 ?_ | refine S19 ?_ | refine S20 ?_ | refine S21 ?_ | refine S22 ?_ | refine S23 ?_ | refine S25 ?_ | refine S26 ?_ | refine S30 ?_ | refine S34 ?_ | refine S36 ?_ | refine S45 ?_ | refine S46 ?_ | refine S48 ?_ | refine S49 ?_ | refine S51 ?_ | refine S63 ?_ | refine S66 ?_ | refine S68 ?_ | refine S69 ?_ | refine S88 ?_ | refine S89 ?_ | refine S90 ?_ | refine S92 ?_)
          exact ⟨(y + 1, nt), hy2, SLx, ⟨hS, hN, hne, hnl, hnx, hxb, hxl⟩, by simp only; omega⟩
      · obtain rfl : y = gs.length := by omega
        have hnext : prt n gs x (bfs n gs (a + k)) (2 * gs.length) = bfs n gs (a + (k + 1)) := by
          show _ = (if a + k < (bfs n gs (a + k)).length then prt n gs ((bfs n gs (a + k)).getD (a + k) (id, [])) (bfs n gs (a + k)) (2 * gs.length) else bfs n gs (a + k))
          rw [if_pos (by omega), hx]
        rw [hnext] at hS hN ⊢
        repeat (first | refine S0 ?_ | refine S1 ?_ | refine S2 ?_ | refine S3 ?_ | refine S4 ?_ | refine S5 ?_ | refine S6 ?_ | refine S7 ?_ | refine S8 ?_ | refine S10 ?_ | refine S11 ?_ | refine S13 ?_ | refine S15 ?_ | refine S16 ?_ | refine S19 ?_ | refine S20 ?_ | refine S21 ?_ | refine S22 ?_ | refine S23 ?_ | refine S25 ?_ | refine S26 ?_ | refine S30 ?_ | refine S34 ?_ | refine S36 ?_ | refine S45 ?_ | refine S46 ?_ | refine S48 ?_ | refine S49 ?_ | refine S51 ?_ | refine S63 ?_ | refine S66 ?_ | refine S68 ?_ | refine S69 ?_ | refine S88 ?_ | refine S89 ?_ | refine S90 ?_ | refine S92 ?_)
        exact ⟨(k + 1, nt), hk2, SLx, ⟨hS, hN, hne, hnl, hnx⟩, by simp only; omega⟩
    · obtain rfl : k = m := by omega
      have hbk : b = a + k := by omega
      rw [hbk] at hN ⊢
      have hcl := cN_len n ((bfs n gs (a + k)).drop (a + k))
      rw [List.length_drop] at hcl
      refine CW.freeze 7 (tk := nt) (v := .lst false 2 ((bfs n gs (a + k)).length - (a + k)) (cN n ((bfs n gs (a + k)).drop (a + k)))) rfl hN (by omega) (by rw [List.drop_zero, List.take_of_length_le (by omega)]) ?_
      repeat (first | refine S0 ?_ | refine S1 ?_ | refine S2 ?_ | refine S3 ?_ | refine S4 ?_ | refine S5 ?_ | refine S6 ?_ | refine S7 ?_ | refine S8 ?_ | refine S10 ?_ | refine S11 ?_ | refine S13 ?_ | refine S15 ?_ | refine S16 ?_ | refine S19 ?_ | refine S20 ?_ | refine S21 ?_ | refine S22 ?_ | refine S23 ?_ | refine S25 ?_ | refine S26 ?_ | refine S30 ?_ | refine S34 ?_ | refine S36 ?_ | refine S45 ?_ | refine S46 ?_ | refine S48 ?_ | refine S49 ?_ | refine S51 ?_ | refine S63 ?_ | refine S66 ?_ | refine S68 ?_ | refine S69 ?_ | refine S88 ?_ | refine S89 ?_ | refine S90 ?_ | refine S92 ?_)
      exact ⟨a + k, by have := hmono k; omega, SLx, ⟨hS, hnx⟩, by omega⟩
  · have hae : a = (bfs n gs a).length := by omega
    have hEa : E = bfs n gs a := by
      obtain ⟨i, h1, h2⟩ := hE
      rw [h2]
      exact bfs_one h1 hae
    rw [hEa]
    repeat (first | refine S0 ?_ | refine S1 ?_ | refine S2 ?_ | refine S3 ?_ | refine S4 ?_ | refine S5 ?_ | refine S6 ?_ | refine S7 ?_ | refine S8 ?_ | refine S10 ?_ | refine S11 ?_ | refine S13 ?_ | refine S15 ?_ | refine S16 ?_ | refine S19 ?_ | refine S20 ?_ | refine S21 ?_ | refine S22 ?_ | refine S23 ?_ | refine S25 ?_ | refine S26 ?_ | refine S30 ?_ | refine S34 ?_ | refine S36 ?_ | refine S45 ?_ | refine S46 ?_ | refine S48 ?_ | refine S49 ?_ | refine S51 ?_ | refine S63 ?_ | refine S66 ?_ | refine S68 ?_ | refine S69 ?_ | refine S88 ?_ | refine S89 ?_ | refine S90 ?_ | refine S92 ?_)
    exact ⟨.inr rfl, Fz.gmref hS rfl (fun i hi => .cl (by
      have hi' : i < (bfs n gs a).length := by simpa using hi
      simp [vN, List.getD, hi', PV.cl, PV.cl.clL, wv_cl]))⟩
end Go.Proofs.Ythacglggkgmbhaa
