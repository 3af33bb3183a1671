/- garside.formOf, NormalForm. No condition of its own. -/
import Derived.Test.YtgjfpmjllpgadaaGGarsideFormsBT
set_option linter.unusedVariables false
set_option linter.unusedSimpArgs false
namespace Go.Proofs.Ytgjfpmjllpgadaa
open Go.RowKit

theorem wd_let {n : Nat} {w : List Int} (h : Wd n w) : ∀ x ∈ w, 1 ≤ x.natAbs ∧ x.natAbs < n := fun x hx => by
  obtain ⟨i, hi, rfl⟩ := List.getElem_of_mem hx
  have := h.lt i hi
  rw [getD_lt 0 hi] at this
  obtain ⟨h1, h2, h3⟩ := this
  omega
theorem take_one {w : List Int} {i : Nat} (h : i < w.length) : w.take (i + 1) = w.take i ++ [w.getD i 0] := by
  rw [List.take_add_one, List.getElem?_eq_getElem h]
  simp [List.getD, h]
/-- a form in memory -/
structure Frm (n : Nat) (w : List Int) (k : Int) (m : Nat) (G : Fam) (tf T off : Nat) (tk : Nat → Nat) (h : HP) : Prop where
  st : St n w k m G
  v : h.blk tf = some [pint n, pint k, .ref T off 1 m]
  F : Fac n m T off tk G h
  lt : tf < 2 * h.next
set_option maxHeartbeats 32000000 in
set_option maxRecDepth 100000 in
theorem formOf_e {n : Nat} {w : List Int} (hw : Wd n w) (h : HP) :
    SChE Try.prog 99 [pint n, pli w] h (fun r h' => ∃ tf k m G T off tk, r = .ptr tf 0 ∧ tf % 2 = 1 ∧ 2 * h.next ≤ tf ∧ Frm n w k m G tf T off tk h') := by
  have hwl := hw.len
  have hn6 := hw.n9
  refine SChE.go { mt := [10] } tok mixed Try.func99 rfl rfl Try.ntmps99 rfl rfl (by kernel_rfl) (fun hw0 => ?_)
  first | simp only [updS] | simp only [updL, Nat.reduceAdd]
  iterate 13 (first | refine S0 ?_ | refine S1 ?_ | refine S2 ?_ | refine S3 ?_ | refine S4 ?_ | refine S5 ?_ | refine S6 ?_ | refine S7 ?_ | refine S8 ?_ | refine S9 ?_ | refine S10 ?_ | refine S11 ?_ | refine S13 ?_ | refine S15 ?_ | refine S16 ?_ | refine S19 ?_ | refine S20 ?_ | refine S21 ?_ | refine S22 ?_ | refine S23 ?_ | refine S24 ?_ | refine S25 ?_ | refine S26 ?_ | refine S27 ?_ | refine S29 ?_ | refine S42 ?_ | refine S45 ?_ | refine S46 ?_ | refine S49 ?_ | refine S63 ?_ | refine S67 ?_ | refine S69 ?_)
  obtain ⟨tf, htf⟩ : ∃ tf, tf = h.tok true := ⟨_, rfl⟩
  have htn : tf = 2 * h.next + 1 := by rw [htf, HP.tokT]
  rw [← htf]
  refine CW.ownC (h := h.add true [pint n, pint 0, .lst true 0 0 []]) (cs := [pint n, pint 0, .lst true 0 0 []]) tf 2 1 (s' := 0) (by rw [htf]; exact HP.add_same _ _ _) rfl (by show tf < 2 * (h.next + 1); omega) ?_
  obtain ⟨T0, hT0⟩ : ∃ T0, T0 = (h.add true [pint n, pint 0, .lst true 0 0 []]).tok false := ⟨_, rfl⟩
  have hT0n : T0 = 2 * (h.next + 1) := by rw [hT0, HP.tokF]; rfl
  rw [← hT0]
  have b0 : (((h.add true [pint n, pint 0, .lst true 0 0 []]).add false []).set tf ([pint n, pint 0, PV.lst true 0 0 []].set 2 (.ref T0 0 1 0))).blk tf = some [pint n, pint 0, .ref T0 0 1 0] := HP.set_same _ _ _
  have bT : (((h.add true [pint n, pint 0, .lst true 0 0 []]).add false []).set tf ([pint n, pint 0, PV.lst true 0 0 []].set 2 (.ref T0 0 1 0))).blk T0 = some [] := by
    refine (HP.set_other _ _ (by omega)).trans ?_
    rw [hT0]; exact HP.add_same _ _ _
  have bn : (((h.add true [pint n, pint 0, .lst true 0 0 []]).add false []).set tf ([pint n, pint 0, PV.lst true 0 0 []].set 2 (.ref T0 0 1 0))).next = h.next + 2 := rfl
  generalize ((h.add true [pint n, pint 0, .lst true 0 0 []]).add false []).set tf ([pint n, pint 0, PV.lst true 0 0 []].set 2 (.ref T0 0 1 0)) = X at *
  repeat (first | refine S0 ?_ | refine S1 ?_ | refine S2 ?_ | refine S3 ?_ | refine S4 ?_ | refine S5 ?_ | refine S6 ?_ | refine S7 ?_ | refine S8 ?_ | refine S9 ?_ | refine S10 ?_ | refine S11 ?_ | refine S13 ?_ | refine S15 ?_ | refine S16 ?_ | refine S19 ?_ | refine S20 ?_ | refine S21 ?_ | refine S22 ?_ | refine S23 ?_ | refine S24 ?_ | refine S25 ?_ | refine S26 ?_ | refine S27 ?_ | refine S29 ?_ | refine S42 ?_ | refine S45 ?_ | refine S46 ?_ | refine S49 ?_ | refine S63 ?_ | refine S67 ?_ | refine S69 ?_)
  refine CW.loopS (fun i : Nat × Int × Nat × Fam × Nat × Nat × (Nat → Nat) => i.1 ≤ w.length) (fun i => [(5, .ptr tf 0), (11, pli w), (12, pint w.length), (13, pint i.1)]) (fun i hp => Frm n (w.take i.1) i.2.1 i.2.2.1 i.2.2.2.1 tf i.2.2.2.2.1 i.2.2.2.2.2.1 i.2.2.2.2.2.2 hp) (fun i => w.length - i.1) (0, 0, 0, (fun _ => id), T0, 0, fun _ => 0) ⟨Nat.zero_le _, SLx, .nil _, b0, ⟨⟨[], bT, Nat.le_refl _, fun j hj => absurd hj (Nat.not_lt_zero _)⟩, fun j hj => absurd hj (Nat.not_lt_zero _), fun i j hi => absurd hi (Nat.not_lt_zero _), fun j hj => absurd hj (Nat.not_lt_zero _), fun j hj => absurd hj (Nat.not_lt_zero _), by simp only; omega, fun j hj => absurd hj (Nat.not_lt_zero _), by simp only; omega⟩, by simp only; omega⟩ ?_
  rintro ⟨i, k, m, G, T, off, tk⟩ t hp hi ⟨hS, bv, bF, bl⟩
  simp only at hi hS bv bF
  first | simp only [updS] | simp only [updL, Nat.reduceAdd]
  by_cases hi2 : i < w.length
  · obtain ⟨x, hx⟩ : ∃ x, x = w.getD i 0 := ⟨_, rfl⟩
    have hlx := wd_let hw x (by rw [hx, getD_lt 0 hi2]; exact List.getElem_mem hi2)
    obtain ⟨q1, q2, q3, q4, q5⟩ := hS.all hn6
    have hlt : (w.take i).length = i := by rw [List.length_take]; omega
    rw [hlt] at q4 q5
    have ka := add_e (x := x) ⟨by omega, hn6⟩ (by omega) (by omega) hlx q2.isP hp bv bF (by omega) bl
    have hstep : w.take (i + 1) = w.take i ++ [x] := by rw [hx]; exact take_one hi2
    repeat (first | refine S0 ?_ | refine S1 ?_ | refine S2 ?_ | refine S3 ?_ | refine S4 ?_ | refine S5 ?_ | refine S6 ?_ | refine S7 ?_ | refine S8 ?_ | refine S9 ?_ | refine S10 ?_ | refine S11 ?_ | refine S13 ?_ | refine S15 ?_ | refine S16 ?_ | refine S19 ?_ | refine S20 ?_ | refine S21 ?_ | refine S22 ?_ | refine S23 ?_ | refine S24 ?_ | refine S25 ?_ | refine S26 ?_ | refine S27 ?_ | refine S29 ?_ | refine S42 ?_ | refine S45 ?_ | refine S46 ?_ | refine S49 ?_ | refine S63 ?_ | refine S67 ?_ | refine S69 ?_)
    rw [← hx]
    refine Scalle (args := [.ptr tf 0, pint x]) ka ?_
    rintro r h' ⟨k', m', G', T', off', tk', r1, r2, r3, r4⟩
    repeat (first | refine S0 ?_ | refine S1 ?_ | refine S2 ?_ | refine S3 ?_ | refine S4 ?_ | refine S5 ?_ | refine S6 ?_ | refine S7 ?_ | refine S8 ?_ | refine S9 ?_ | refine S10 ?_ | refine S11 ?_ | refine S13 ?_ | refine S15 ?_ | refine S16 ?_ | refine S19 ?_ | refine S20 ?_ | refine S21 ?_ | refine S22 ?_ | refine S23 ?_ | refine S24 ?_ | refine S25 ?_ | refine S26 ?_ | refine S27 ?_ | refine S29 ?_ | refine S42 ?_ | refine S45 ?_ | refine S46 ?_ | refine S49 ?_ | refine S63 ?_ | refine S67 ?_ | refine S69 ?_)
    refine ⟨(i + 1, k', m', G', T', off', tk'), hi2, SLx, ⟨?_, r2, r3, r4⟩, by simp only; omega⟩
    simp only
    rw [hstep]
    exact hS.snoc hlx.1 hlx.2 r1
  · have e : i = w.length := by omega
    rw [e, List.take_length] at hS
    repeat (first | refine S0 ?_ | refine S1 ?_ | refine S2 ?_ | refine S3 ?_ | refine S4 ?_ | refine S5 ?_ | refine S6 ?_ | refine S7 ?_ | refine S8 ?_ | refine S9 ?_ | refine S10 ?_ | refine S11 ?_ | refine S13 ?_ | refine S15 ?_ | refine S16 ?_ | refine S19 ?_ | refine S20 ?_ | refine S21 ?_ | refine S22 ?_ | refine S23 ?_ | refine S24 ?_ | refine S25 ?_ | refine S26 ?_ | refine S27 ?_ | refine S29 ?_ | refine S42 ?_ | refine S45 ?_ | refine S46 ?_ | refine S49 ?_ | refine S63 ?_ | refine S67 ?_ | refine S69 ?_)
    exact ⟨.inr rfl, _, ⟨_, rfl, rfl⟩, tf, k, m, G, T, off, tk, rfl, by omega, by omega, hS, bv, bF, bl⟩
/-- the factors as the program returns them -/
def ptts (l : List (List Int)) : PV := .lst true 1 l.length (l.map pli)
def fcs (n m : Nat) (G : Fam) : List (List Int) := (lst m G).map (tabN n)
theorem fcs_len (n m : Nat) (G : Fam) : (fcs n m G).length = m := by simp [fcs, lst]
theorem fcs_succ (n m : Nat) (G : Fam) : fcs n (m + 1) G = fcs n m G ++ [tabN n (G m)] := by unfold fcs; rw [lst_succ, List.map_append]; rfl
theorem ptts_cl (l : List (List Int)) : PV.cl.clL (l.map pli) = true := by
  induction l with
  | nil => rfl
  | cons x l ih => rw [List.map_cons]; simp only [PV.cl.clL, pli_cl, ih, Bool.and_self]
section
variable {P : Program} {T : TypeId → TI} {M : Hn} {t : Nat → PV} {h : HP} {cl : Oper → Cls} {ops : Array Oper} {l : List Oper} {K : AS → Prop} {d : Nat} {ty : TypeId} {pos : String} {aft : Array Edge}
/-- s[:len(s):len(s)], s a slice of one's own -/
theorem AW.clipR {tt : TypeId} {x hi mx : Operand} {el bs m tk off : Nat} {zc : List Value} {k1 k2 : IntKind} (hx : evA t x = .ref tk off 1 m) (ht : T tt = .sl el 1 bs zc) (hh : evA t hi = .sc (.int k1 m)) (hm : evA t mx = .sc (.int k2 m)) (hk : AW P T M cl ops l ⟨upd t d (.ref tk off 1 m), h⟩ K) :
    AW P T M cl ops (⟨some d, .slice tt x none (some hi) (some mx), ty, pos, aft, none⟩ :: l) ⟨t, h⟩ K := by
  have e : PV.ref tk (off + (0 : Int).toNat * 1) 1 ((m : Int).toNat - (0 : Int).toNat) = .ref tk off 1 m := by simp
  refine ⟨.inl ⟨_, (by unfold AX; simp only [GX, DX, slX, hx, ht, hh, hm, boundX]; exact ⟨trivial, trivial, ⟨by omega, by omega, by omega⟩, AX.nil rfl⟩), ?_⟩⟩
  have := hk.out
  rw [← e] at this
  exact this
end
set_option maxHeartbeats 4000000 in
set_option maxRecDepth 100000 in
theorem clip_e {t n : Nat} (h : HP) {cs : List PV} (hb : h.blk t = some cs) : SChE Try.prog 75 [.ref t 0 1 n] h (fun r h' => r = .ref t 0 1 n ∧ h' = h) := by
  refine SChE.go {} tok mixed Try.func75 rfl rfl Try.ntmps75 rfl rfl (by kernel_rfl) (fun hw0 => ?_)
  first | simp only [updS] | simp only [updL, Nat.reduceAdd]
  repeat (first | refine S0 ?_ | refine S1 ?_ | refine S2 ?_ | refine S3 ?_ | refine S4 ?_ | refine S5 ?_ | refine S6 ?_ | refine S7 ?_ | refine S8 ?_ | refine S9 ?_ | refine S10 ?_ | refine S11 ?_ | refine S13 ?_ | refine S15 ?_ | refine S16 ?_ | refine S19 ?_ | refine S20 ?_ | refine S21 ?_ | refine S22 ?_ | refine S23 ?_ | refine S24 ?_ | refine S25 ?_ | refine S26 ?_ | refine S27 ?_ | refine S29 ?_ | refine S42 ?_ | refine S45 ?_ | refine S46 ?_ | refine S49 ?_ | refine S63 ?_ | refine S67 ?_ | refine S69 ?_)
  refine AW.clipR EVx rfl EVx EVx ?_
  repeat (first | refine S0 ?_ | refine S1 ?_ | refine S2 ?_ | refine S3 ?_ | refine S4 ?_ | refine S5 ?_ | refine S6 ?_ | refine S7 ?_ | refine S8 ?_ | refine S9 ?_ | refine S10 ?_ | refine S11 ?_ | refine S13 ?_ | refine S15 ?_ | refine S16 ?_ | refine S19 ?_ | refine S20 ?_ | refine S21 ?_ | refine S22 ?_ | refine S23 ?_ | refine S24 ?_ | refine S25 ?_ | refine S26 ?_ | refine S27 ?_ | refine S29 ?_ | refine S42 ?_ | refine S45 ?_ | refine S46 ?_ | refine S49 ?_ | refine S63 ?_ | refine S67 ?_ | refine S69 ?_)
  exact ⟨.inr rfl, _, ⟨_, rfl, rfl⟩, rfl, rfl⟩
set_option maxHeartbeats 32000000 in
set_option maxRecDepth 100000 in
theorem nform_bad {n : Int} {w : List Int} (h0 : bF n w ≠ 0) (h : HP) : SChE Try.prog 53 [pint n, pli w] h (fun r h' => r = .tup [pint 0, .lst true 0 0 [], pint (bF n w)] ∧ h' = h) := by
  have kc := bcheck_s n w
  refine SChE.go {} tok mixed Try.func53 rfl rfl Try.ntmps53 rfl rfl (by kernel_rfl) (fun hw0 => ?_)
  first | simp only [updS] | simp only [updL, Nat.reduceAdd]
  repeat (first | refine S0 ?_ | refine S1 ?_ | refine S2 ?_ | refine S3 ?_ | refine S4 ?_ | refine S5 ?_ | refine S6 ?_ | refine S7 ?_ | refine S8 ?_ | refine S9 ?_ | refine S10 ?_ | refine S11 ?_ | refine S13 ?_ | refine S15 ?_ | refine S16 ?_ | refine S19 ?_ | refine S20 ?_ | refine S21 ?_ | refine S22 ?_ | refine S23 ?_ | refine S24 ?_ | refine S25 ?_ | refine S26 ?_ | refine S27 ?_ | refine S29 ?_ | refine S42 ?_ | refine S45 ?_ | refine S46 ?_ | refine S49 ?_ | refine S63 ?_ | refine S67 ?_ | refine S69 ?_)
  refine Scall (args := [pint n, pli w]) kc ?_
  repeat (first | refine S0 ?_ | refine S1 ?_ | refine S2 ?_ | refine S3 ?_ | refine S4 ?_ | refine S5 ?_ | refine S6 ?_ | refine S7 ?_ | refine S8 ?_ | refine S9 ?_ | refine S10 ?_ | refine S11 ?_ | refine S13 ?_ | refine S15 ?_ | refine S16 ?_ | refine S19 ?_ | refine S20 ?_ | refine S21 ?_ | refine S22 ?_ | refine S23 ?_ | refine S24 ?_ | refine S25 ?_ | refine S26 ?_ | refine S27 ?_ | refine S29 ?_ | refine S42 ?_ | refine S45 ?_ | refine S46 ?_ | refine S49 ?_ | refine S63 ?_ | refine S67 ?_ | refine S69 ?_)
  exact ⟨.inr rfl, _, ⟨_, rfl, _, rfl, _, rfl, rfl⟩, rfl, rfl⟩
set_option maxHeartbeats 32000000 in
set_option maxRecDepth 100000 in
theorem nform_ok {n : Nat} {w : List Int} (hw : Wd n w) (h0 : bF n w = 0) (h : HP) : SChE Try.prog 53 [pint n, pli w] h (fun r _ => ∃ k m G, St n w k m G ∧ r = .tup [pint k, ptts (fcs n m G), pint 0]) := by
  have kc := bcheck_s n w
  rw [h0] at kc
  have hwl := hw.len
  have hn6 := hw.n9
  have kf := formOf_e hw h
  refine SChE.go {} tok mixed Try.func53 rfl rfl Try.ntmps53 rfl rfl (by kernel_rfl) (fun hw0 => ?_)
  first | simp only [updS] | simp only [updL, Nat.reduceAdd]
  repeat (first | refine S0 ?_ | refine S1 ?_ | refine S2 ?_ | refine S3 ?_ | refine S4 ?_ | refine S5 ?_ | refine S6 ?_ | refine S7 ?_ | refine S8 ?_ | refine S9 ?_ | refine S10 ?_ | refine S11 ?_ | refine S13 ?_ | refine S15 ?_ | refine S16 ?_ | refine S19 ?_ | refine S20 ?_ | refine S21 ?_ | refine S22 ?_ | refine S23 ?_ | refine S24 ?_ | refine S25 ?_ | refine S26 ?_ | refine S27 ?_ | refine S29 ?_ | refine S42 ?_ | refine S45 ?_ | refine S46 ?_ | refine S49 ?_ | refine S63 ?_ | refine S67 ?_ | refine S69 ?_)
  refine Scall (args := [pint n, pli w]) kc ?_
  repeat (first | refine S0 ?_ | refine S1 ?_ | refine S2 ?_ | refine S3 ?_ | refine S4 ?_ | refine S5 ?_ | refine S6 ?_ | refine S7 ?_ | refine S8 ?_ | refine S9 ?_ | refine S10 ?_ | refine S11 ?_ | refine S13 ?_ | refine S15 ?_ | refine S16 ?_ | refine S19 ?_ | refine S20 ?_ | refine S21 ?_ | refine S22 ?_ | refine S23 ?_ | refine S24 ?_ | refine S25 ?_ | refine S26 ?_ | refine S27 ?_ | refine S29 ?_ | refine S42 ?_ | refine S45 ?_ | refine S46 ?_ | refine S49 ?_ | refine S63 ?_ | refine S67 ?_ | refine S69 ?_)
  refine Scalle (args := [pint n, pli w]) kf ?_
  rintro r h' ⟨tf, k, m, G, T, off, tk, rfl, ho, hge, hS, bv, bF, bl⟩
  obtain ⟨q1, q2, q3, q4, q5⟩ := hS.all hn6
  repeat (first | refine S0 ?_ | refine S1 ?_ | refine S2 ?_ | refine S3 ?_ | refine S4 ?_ | refine S5 ?_ | refine S6 ?_ | refine S7 ?_ | refine S8 ?_ | refine S9 ?_ | refine S10 ?_ | refine S11 ?_ | refine S13 ?_ | refine S15 ?_ | refine S16 ?_ | refine S19 ?_ | refine S20 ?_ | refine S21 ?_ | refine S22 ?_ | refine S23 ?_ | refine S24 ?_ | refine S25 ?_ | refine S26 ?_ | refine S27 ?_ | refine S29 ?_ | refine S42 ?_ | refine S45 ?_ | refine S46 ?_ | refine S49 ?_ | refine S63 ?_ | refine S67 ?_ | refine S69 ?_)
  refine CW.own 9 1 rfl ?_
  have fr0 : Fr [] h' (h'.add false []) := (Fr.refl _ _).add false _
  refine CW.loopS (fun i : Nat × Nat => i.1 ≤ m ∧ i.2 % 2 = 0 ∧ 2 * h'.next ≤ i.2) (fun i => [(8, .ptr tf 0), (9, .ref i.2 0 1 i.1), (24, .ref T off 1 m), (25, pint m), (26, pint i.1)]) (fun i hp => Fr [] h' hp ∧ i.2 < 2 * hp.next ∧ hp.blk i.2 = some ((fcs n i.1 G).map pli)) (fun i => m - i.1) (0, h'.tok false) ⟨⟨Nat.zero_le _, HP.tok_even _, (HP.tok_ge _ _).1⟩, SLx, fr0, by simp only [HP.tokF]; show _ < 2 * (h'.next + 1); omega, HP.add_same _ _ _⟩ ?_
  rintro ⟨i, to⟩ t hp ⟨hi, hte, htg⟩ ⟨fr, htl, hto⟩
  simp only at hi hte htg htl hto
  obtain ⟨cs, c1, c2, c3⟩ := bF.cs
  have hev := bF.evT
  have bvp : hp.blk tf = some [pint n, pint k, .ref T off 1 m] := by rw [fr.blk _ bl (by simp)]; exact bv
  have bTp : hp.blk T = some cs := by rw [fr.blk _ bF.ltT (by simp)]; exact c1
  first | simp only [updS] | simp only [updL, Nat.reduceAdd]
  by_cases him : i < m
  · have hrow : hp.blk (tk i) = some (ints (tabN n (G i))) := by rw [fr.blk _ (bF.lt i him) (by simp)]; exact bF.row i him
    have hl := tab_len n (G i)
    have kc := clone_o (tabN n (G i)) (by rw [hl]; omega)
    rw [hl] at kc
    have hfl := fcs_len n i G
    repeat (first | refine S0 ?_ | refine S1 ?_ | refine S2 ?_ | refine S3 ?_ | refine S4 ?_ | refine S5 ?_ | refine S6 ?_ | refine S7 ?_ | refine S8 ?_ | refine S9 ?_ | refine S10 ?_ | refine S11 ?_ | refine S13 ?_ | refine S15 ?_ | refine S16 ?_ | refine S19 ?_ | refine S20 ?_ | refine S21 ?_ | refine S22 ?_ | refine S23 ?_ | refine S24 ?_ | refine S25 ?_ | refine S26 ?_ | refine S27 ?_ | refine S29 ?_ | refine S42 ?_ | refine S45 ?_ | refine S46 ?_ | refine S49 ?_ | refine S63 ?_ | refine S67 ?_ | refine S69 ?_)
    rw [show off + (i : Int).toNat * 1 = off + i by simp]
    refine AW.ldm EVx (by first | exact Or.inl rfl | exact Or.inr ⟨rfl, HP.tok_even _⟩ | exact Or.inr (Or.inl ⟨rfl, HP.tok_even _⟩) | exact Or.inr (Or.inr ⟨rfl, HP.tok_odd _⟩) | exact Or.inr (Or.inl rfl) | exact Or.inr (Or.inr (Or.inl rfl)) | exact Or.inr (Or.inr (Or.inr (Or.inl ⟨rfl, HP.tok_odd _⟩))) | exact Or.inr (Or.inr (Or.inr (Or.inr ⟨rfl, HP.tok_even _⟩))) | exact Or.inr (Or.inr (Or.inr (Or.inr ⟨rfl, by assumption⟩))) | exact Or.inr ⟨rfl, by assumption⟩ | exact Or.inr (Or.inl ⟨rfl, by assumption⟩) | exact Or.inr (Or.inr ⟨rfl, by assumption⟩) | exact Or.inr (Or.inr (Or.inr (Or.inl ⟨rfl, by assumption⟩))) | exact Or.inr (Or.inr (Or.inl ⟨rfl, HP.tok_odd _⟩)) | exact Or.inr (Or.inr (Or.inl ⟨rfl, by assumption⟩)) | exact Or.inr (Or.inr (Or.inr rfl)) | exact Or.inr (Or.inr rfl) | exact Or.inr rfl) rfl bTp (c3 i him) ?_
    repeat (first | refine S0 ?_ | refine S1 ?_ | refine S2 ?_ | refine S3 ?_ | refine S4 ?_ | refine S5 ?_ | refine S6 ?_ | refine S7 ?_ | refine S8 ?_ | refine S9 ?_ | refine S10 ?_ | refine S11 ?_ | refine S13 ?_ | refine S15 ?_ | refine S16 ?_ | refine S19 ?_ | refine S20 ?_ | refine S21 ?_ | refine S22 ?_ | refine S23 ?_ | refine S24 ?_ | refine S25 ?_ | refine S26 ?_ | refine S27 ?_ | refine S29 ?_ | refine S42 ?_ | refine S45 ?_ | refine S46 ?_ | refine S49 ?_ | refine S63 ?_ | refine S67 ?_ | refine S69 ?_)
    refine Scallob (args := [pli (tabN n (G i))]) kc ?_ (ha := by simp only [evA, upd, Nat.reduceEqDiff, ↓reduceIte, List.map_cons, List.map_nil]; rw [bwT hrow]) (hf := ints_bare _)
    obtain ⟨T1, hT1⟩ : ∃ T1, T1 = hp.tok false := ⟨_, rfl⟩
    have hT1n : T1 = 2 * hp.next := by rw [hT1, HP.tokF]
    rw [← hT1]
    obtain ⟨X, hX⟩ : ∃ X, X = hp.add false (ints (tabN n (G i))) := ⟨_, rfl⟩
    have xT : X.blk T1 = some (ints (tabN n (G i))) := by rw [hX, hT1]; exact HP.add_same _ _ _
    have xo : ∀ t, t ≠ T1 → X.blk t = hp.blk t := fun t ht => by rw [hX]; exact HP.add_other _ _ _ (by rw [← hT1]; exact ht)
    have xn : X.next = hp.next + 1 := by rw [hX]; rfl
    have xf : Fr [] h' X := by rw [hX]; exact fr.add _ _
    rw [← hX]
    clear hX
    have kk := clip_e (n := n) X xT
    refine Scalle (args := [.ref T1 0 1 n]) kk ?_
    rintro r X' ⟨rfl, rfl⟩
    have xto : X'.blk to = some ((fcs n i G).map pli) := (xo _ (by omega)).trans hto
    iterate 6 (first | refine S0 ?_ | refine S1 ?_ | refine S2 ?_ | refine S3 ?_ | refine S4 ?_ | refine S5 ?_ | refine S6 ?_ | refine S7 ?_ | refine S8 ?_ | refine S9 ?_ | refine S10 ?_ | refine S11 ?_ | refine S13 ?_ | refine S15 ?_ | refine S16 ?_ | refine S19 ?_ | refine S20 ?_ | refine S21 ?_ | refine S22 ?_ | refine S23 ?_ | refine S24 ?_ | refine S25 ?_ | refine S26 ?_ | refine S27 ?_ | refine S29 ?_ | refine S42 ?_ | refine S45 ?_ | refine S46 ?_ | refine S49 ?_ | refine S63 ?_ | refine S67 ?_ | refine S69 ?_)
    rw [show List.take i (List.map pli (fcs n i G)) = List.map pli (fcs n i G) from List.take_of_length_le (by rw [List.length_map, hfl]; omega)]
    obtain ⟨T2, hT2⟩ : ∃ T2, T2 = X'.tok false := ⟨_, rfl⟩
    have hT2n : T2 = 2 * X'.next := by rw [hT2, HP.tokF]
    rw [← hT2]
    have y2 : ((X'.kill to).add false (List.map pli (fcs n i G) ++ [PV.ref T1 0 1 n])).blk T2 = some (List.map pli (fcs n i G) ++ [PV.ref T1 0 1 n]) := by rw [show T2 = (X'.kill to).tok false from hT2]; exact HP.add_same _ _ _
    have y1 : ((X'.kill to).add false (List.map pli (fcs n i G) ++ [PV.ref T1 0 1 n])).blk T1 = some (ints (tabN n (G i))) := by
      refine (HP.add_other _ _ _ (by rw [show (X'.kill to).tok false = T2 from hT2.symm]; omega)).trans ?_
      exact (HP.kill_other _ (by omega)).trans xT
    have yf : Fr [] h' ((X'.kill to).add false (List.map pli (fcs n i G) ++ [PV.ref T1 0 1 n])) := (xf.kill (.inr htg)).add _ _
    have yn : ((X'.kill to).add false (List.map pli (fcs n i G) ++ [PV.ref T1 0 1 n])).next = X'.next + 1 := rfl
    generalize (X'.kill to).add false (List.map pli (fcs n i G) ++ [PV.ref T1 0 1 n]) = Y at *
    have hge2 := fr.next
    refine CW.freezeC T2 i (tk := T1) (off := 0) (sz := 1) (m := n) y2 (by rw [List.getElem?_append_right (by rw [List.length_map, hfl]; omega), List.length_map, hfl]; simp) y1 (by rw [ints_length, hl]; omega) (by omega) (r := pli (tabN n (G i))) (by rw [List.drop_zero, Nat.mul_one, ints_take, List.take_of_length_le (by omega)]; unfold pli; rw [hl]) ?_
    rw [show (List.map pli (fcs n i G) ++ [PV.ref T1 0 1 n]).set i (pli (tabN n (G i))) = (fcs n (i + 1) G).map pli by
      rw [fcs_succ, List.map_append, List.set_append_right _ _ (by rw [List.length_map, hfl]; omega), List.length_map, hfl]; simp]
    repeat (first | refine S0 ?_ | refine S1 ?_ | refine S2 ?_ | refine S3 ?_ | refine S4 ?_ | refine S5 ?_ | refine S6 ?_ | refine S7 ?_ | refine S8 ?_ | refine S9 ?_ | refine S10 ?_ | refine S11 ?_ | refine S13 ?_ | refine S15 ?_ | refine S16 ?_ | refine S19 ?_ | refine S20 ?_ | refine S21 ?_ | refine S22 ?_ | refine S23 ?_ | refine S24 ?_ | refine S25 ?_ | refine S26 ?_ | refine S27 ?_ | refine S29 ?_ | refine S42 ?_ | refine S45 ?_ | refine S46 ?_ | refine S49 ?_ | refine S63 ?_ | refine S67 ?_ | refine S69 ?_)
    refine ⟨(i + 1, T2), ⟨by simp only; omega, by simp only; omega, by simp only; omega⟩, SLx, ⟨(yf.kill (.inr (by omega))).set _ (.inr (by omega)), by show T2 < 2 * Y.next; omega, HP.set_same _ _ _⟩, by simp only; omega⟩
  · have e : i = m := by omega
    rw [e] at hto
    have hfl := fcs_len n m G
    refine CW.freeze 9 (tk := to) (off := 0) (sz := 1) (m := m) (v := .lst false 1 m ((fcs n m G).map pli)) (by rw [← e]; rfl) hto (by rw [List.length_map, hfl]; omega) ?_ ?_
    · rw [List.drop_zero, Nat.mul_one, List.take_of_length_le (by rw [List.length_map, hfl]; omega)]
    have bvk : (hp.kill to).blk tf = some [pint n, pint k, .ref T off 1 m] := (HP.kill_other _ (by omega)).trans bvp
    have kcl := clipL_s (b := false) (n := m) (cs := (fcs n m G).map pli) (by rw [List.length_map, hfl]) (ptts_cl _)
    repeat (first | refine S0 ?_ | refine S1 ?_ | refine S2 ?_ | refine S3 ?_ | refine S4 ?_ | refine S5 ?_ | refine S6 ?_ | refine S7 ?_ | refine S8 ?_ | refine S9 ?_ | refine S10 ?_ | refine S11 ?_ | refine S13 ?_ | refine S15 ?_ | refine S16 ?_ | refine S19 ?_ | refine S20 ?_ | refine S21 ?_ | refine S22 ?_ | refine S23 ?_ | refine S24 ?_ | refine S25 ?_ | refine S26 ?_ | refine S27 ?_ | refine S29 ?_ | refine S42 ?_ | refine S45 ?_ | refine S46 ?_ | refine S49 ?_ | refine S63 ?_ | refine S67 ?_ | refine S69 ?_)
    refine Scall (args := [.lst false 1 m ((fcs n m G).map pli)]) kcl ?_ (hc := by simp only [PV.cl.clL, PV.cl, ptts_cl, Bool.and_self])
    repeat (first | refine S0 ?_ | refine S1 ?_ | refine S2 ?_ | refine S3 ?_ | refine S4 ?_ | refine S5 ?_ | refine S6 ?_ | refine S7 ?_ | refine S8 ?_ | refine S9 ?_ | refine S10 ?_ | refine S11 ?_ | refine S13 ?_ | refine S15 ?_ | refine S16 ?_ | refine S19 ?_ | refine S20 ?_ | refine S21 ?_ | refine S22 ?_ | refine S23 ?_ | refine S24 ?_ | refine S25 ?_ | refine S26 ?_ | refine S27 ?_ | refine S29 ?_ | refine S42 ?_ | refine S45 ?_ | refine S46 ?_ | refine S49 ?_ | refine S63 ?_ | refine S67 ?_ | refine S69 ?_)
    refine ⟨.inr rfl, _, ⟨_, rfl, _, rfl, _, rfl, rfl⟩, k, m, G, hS, ?_⟩
    unfold ptts
    rw [hfl]; rfl
end Go.Proofs.Ytgjfpmjllpgadaa
