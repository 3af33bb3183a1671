/- polymatrix.Expand: the determinant by rows. No condition of its own. -/
import Derived.Test.YtenoiklocdoemaaGAlexanderMinorsAW
import Derived.Test.YtenoiklocdoemaaGAlexanderMinorsBD
set_option linter.unusedVariables false
set_option linter.unusedSimpArgs false
namespace Go.Proofs.Ytenoiklocdoemaa
open Go.RowKit

section
variable {P : Program} {T : TypeId → TI} {M : Hn} {cl : Oper → Cls} {ops : Array Oper} {l : List Oper} {t : Nat → PV} {h : HP} {K : AS → Prop} {d : Nat} {ty : TypeId} {pos' : String} {aft : Array Edge} {tt : TypeId} {x : Operand} {c : Bool} {el bs q : Nat} {zc : List Value} {k1 : IntKind}
/-- row[:q] -/
theorem AW.slToP {hi : Operand} {xs : List Po} (hx : evA t x = .lst c 2 xs.length (pos xs)) (ht : T tt = .sl el 2 bs zc) (hl : evA t hi = .sc (.int k1 q)) (hb : q ≤ xs.length) (hk : AW P T M cl ops l ⟨upd t d (.lst false 2 (xs.take q).length (pos (xs.take q))), h⟩ K) :
    AW P T M cl ops (⟨some d, .slice tt x none (some hi) none, ty, pos', aft, none⟩ :: l) ⟨t, h⟩ K := by
  have := AW.sll (P := P) (M := M) (cl := cl) (ops := ops) (l := l) (h := h) (K := K) (d := d) (ty := ty) (pos := pos') (aft := aft) (lo := none) (hi := some hi) hx ht (.inl rfl) rfl ⟨_, hl⟩ ⟨Int.le_refl _, by omega, by omega⟩
  refine this ?_
  have e1 : (q : Int).toNat - (0 : Int).toNat = (xs.take q).length := by simp; omega
  have e2 : ((pos xs).drop ((0 : Int).toNat * 2)).take (((q : Int).toNat - (0 : Int).toNat) * 2) = pos (xs.take q) := by
    rw [show (q : Int).toNat - (0 : Int).toNat = q by simp]
    simpa using pos_take xs q
  rw [e2, e1]
  simpa using hk
/-- row[q:] -/
theorem AW.slFrP {lo : Operand} {xs : List Po} {z : Int} (hx : evA t x = .lst c 2 xs.length (pos xs)) (ht : T tt = .sl el 2 bs zc) (hl : evA t lo = .sc (.int k1 z)) (hz : z = q) (hb : q ≤ xs.length) (hk : AW P T M cl ops l ⟨upd t d (.lst c 2 (xs.drop q).length (pos (xs.drop q))), h⟩ K) :
    AW P T M cl ops (⟨some d, .slice tt x (some lo) none none, ty, pos', aft, none⟩ :: l) ⟨t, h⟩ K := by
  subst hz
  have := AW.sll (P := P) (M := M) (cl := cl) (ops := ops) (l := l) (h := h) (K := K) (d := d) (ty := ty) (pos := pos') (aft := aft) (lo := some lo) (hi := none) hx ht (.inl rfl) ⟨_, hl⟩ rfl ⟨by omega, by omega, Int.le_refl _⟩
  refine this ?_
  have e1 : (xs.length : Int).toNat - (q : Int).toNat = (xs.drop q).length := by simp
  have e2 : ((pos xs).drop ((q : Int).toNat * 2)).take (((xs.length : Int).toNat - (q : Int).toNat) * 2) = pos (xs.drop q) := by
    rw [List.take_of_length_le (by rw [List.length_drop, pos_length]; omega)]
    simpa using pos_drop xs q
  rw [e2, e1]
  simpa using hk
/-- l[q:] -/
theorem AW.slFrL {β : Type} {F : β → PV} {lo : Operand} {xs : List β} (hx : evA t x = .lst c 1 xs.length (xs.map F)) (ht : T tt = .sl el 1 bs zc) (hl : evA t lo = .sc (.int k1 q)) (hb : q ≤ xs.length) (hk : AW P T M cl ops l ⟨upd t d (.lst c 1 (xs.drop q).length ((xs.drop q).map F)), h⟩ K) :
    AW P T M cl ops (⟨some d, .slice tt x (some lo) none none, ty, pos', aft, none⟩ :: l) ⟨t, h⟩ K := by
  have := AW.sll (P := P) (M := M) (cl := cl) (ops := ops) (l := l) (h := h) (K := K) (d := d) (ty := ty) (pos := pos') (aft := aft) (lo := some lo) (hi := none) hx ht (.inl rfl) ⟨_, hl⟩ rfl ⟨by omega, by omega, Int.le_refl _⟩
  refine this ?_
  have e1 : (xs.length : Int).toNat - (q : Int).toNat = (xs.drop q).length := by simp
  have e2 : ((xs.map F).drop ((q : Int).toNat * 1)).take (((xs.length : Int).toNat - (q : Int).toNat) * 1) = (xs.drop q).map F := by
    rw [List.take_of_length_le (by simp)]
    simp
  rw [e2, e1]
  simpa using hk
theorem CW.freezeL {β : Type} {F : β → PV} {n : Nat} {Q : Exit → AS → Prop} {cd : Code} (d : Nat) {tk : Nat} {xs : List β} (hd : t d = .ref tk 0 1 xs.length) (hb : h.blk tk = some (xs.map F)) (hk : CW P T M n cd ⟨upd t d (.lst false 1 xs.length (xs.map F)), h.kill tk⟩ Q) : CW P T M n cd ⟨t, h⟩ Q :=
  CW.freeze d hd hb (by simp) (by rw [List.drop_zero, List.take_of_length_le (by simp)]) hk
end
/-- some rows and columns of a matrix, as polynomials -/
noncomputable def mat (M : Nat → Nat → LP) (rs cs : List Nat) : List (List Po) := rs.map fun r => cs.map fun c => poW (M r c)
theorem mat_len (M : Nat → Nat → LP) (rs cs : List Nat) : (mat M rs cs).length = rs.length := by simp [mat]
theorem altsP_step (F : Nat → List Nat → LP) {cs : List Nat} {k : Nat} (h : k < cs.length) : altsP F k (cs.take k) (cs.drop k) = LP.smul (sgn k) (F (cs.getD k 0) (cs.take k ++ cs.drop (k + 1))) + altsP F (k + 1) (cs.take (k + 1)) (cs.drop (k + 1)) := by
  rw [List.drop_eq_getElem_cons h, altsP, List.take_succ_eq_append_getElem h, getD_lt 0 h]
theorem sgn_neg (k : Nat) : -(sgn k) = sgn (k + 1) := by
  unfold sgn
  by_cases h : k % 2 = 0
  · rw [if_pos h, if_neg (by omega)]
  · rw [if_neg h, if_pos (by omega)]; rfl
theorem poW_zero : poW 0 = (0, []) := cano_zero (fun _ => rfl)
set_option maxHeartbeats 16000000 in
set_option maxRecDepth 100000 in
theorem expand_s {M : Nat → Nat → LP} {B : Nat} (hM : ∀ r c, Sup B (M r c)) (hB : B ≤ 300) : ∀ (rs cs : List Nat), rs.length = cs.length → rs.length ≤ 6 → SC Try.prog 40 [ppss (mat M rs cs)] (ppo (poW (lapP M rs cs)))
  | [], cs, hrc, h6 => by
    refine SC.go {} tok mixed Try.func40 rfl rfl Try.ntmps40 rfl rfl (by kernel_rfl) ?_
    first | simp only [updS] | simp only [updL, Nat.reduceAdd]
    have hl : (mat M [] cs).length = 0 := rfl
    repeat (first | refine S0 ?_ | refine S1 ?_ | refine S2 ?_ | refine S3 ?_ | refine S4 ?_ | refine S5 ?_ | refine S6 ?_ | refine S7 ?_ | refine S8 ?_ | refine S9 ?_ | refine S10 ?_ | refine S11 ?_ | refine S13 ?_ | refine S15 ?_ | refine S16 ?_ | refine S19 ?_ | refine S20 ?_ | refine S21 ?_ | refine S22 ?_ | refine S23 ?_ | refine S25 ?_ | refine S26 ?_ | refine S28 ?_ | refine S35 ?_ | refine S48 ?_ | refine S49 ?_ | refine S63 ?_ | refine S66 ?_ | refine S68 ?_)
    refine Scall (args := [pint 1, pint 0]) (termW_s 1 0 (by unfold in64; omega) (by omega)) ?_
    repeat (first | refine S0 ?_ | refine S1 ?_ | refine S2 ?_ | refine S3 ?_ | refine S4 ?_ | refine S5 ?_ | refine S6 ?_ | refine S7 ?_ | refine S8 ?_ | refine S9 ?_ | refine S10 ?_ | refine S11 ?_ | refine S13 ?_ | refine S15 ?_ | refine S16 ?_ | refine S19 ?_ | refine S20 ?_ | refine S21 ?_ | refine S22 ?_ | refine S23 ?_ | refine S25 ?_ | refine S26 ?_ | refine S28 ?_ | refine S35 ?_ | refine S48 ?_ | refine S49 ?_ | refine S63 ?_ | refine S66 ?_ | refine S68 ?_)
    refine ⟨.inr rfl, FR.cell1 rfl HBx rfl rfl ?_⟩
    exact .cl (by simp only [PV.cl, PV.cl.clL, pint_cl, pli_cl, Bool.and_self])
  | r :: rs, cs, hrc, h6 => by
    refine SC.go {} tok mixed Try.func40 rfl rfl Try.ntmps40 rfl rfl (by kernel_rfl) ?_
    first | simp only [updS] | simp only [updL, Nat.reduceAdd]
    obtain ⟨m, hm⟩ : ∃ m, m = mat M (r :: rs) cs := ⟨_, rfl⟩
    rw [← hm]
    obtain ⟨row, hrow⟩ : ∃ row, row = cs.map (fun c => poW (M r c)) := ⟨_, rfl⟩
    have hl : m.length = rs.length + 1 := by rw [hm, mat_len]; rfl
    have hm0 : m.getD (Int.toNat 0) [] = row := by rw [hm, hrow]; rfl
    have hm1 : m.drop 1 = mat M rs cs := by rw [hm]; rfl
    have hrl : row.length = cs.length := by rw [hrow]; simp
    have hn : cs.length = rs.length + 1 := by simpa using hrc.symm
    repeat (first | refine S0 ?_ | refine S1 ?_ | refine S2 ?_ | refine S3 ?_ | refine S4 ?_ | refine S5 ?_ | refine S6 ?_ | refine S7 ?_ | refine S8 ?_ | refine S9 ?_ | refine S10 ?_ | refine S11 ?_ | refine S13 ?_ | refine S15 ?_ | refine S16 ?_ | refine S19 ?_ | refine S20 ?_ | refine S21 ?_ | refine S22 ?_ | refine S23 ?_ | refine S25 ?_ | refine S26 ?_ | refine S28 ?_ | refine S35 ?_ | refine S48 ?_ | refine S49 ?_ | refine S63 ?_ | refine S66 ?_ | refine S68 ?_)
    rw [hm0]
    repeat (first | refine S0 ?_ | refine S1 ?_ | refine S2 ?_ | refine S3 ?_ | refine S4 ?_ | refine S5 ?_ | refine S6 ?_ | refine S7 ?_ | refine S8 ?_ | refine S9 ?_ | refine S10 ?_ | refine S11 ?_ | refine S13 ?_ | refine S15 ?_ | refine S16 ?_ | refine S19 ?_ | refine S20 ?_ | refine S21 ?_ | refine S22 ?_ | refine S23 ?_ | refine S25 ?_ | refine S26 ?_ | refine S28 ?_ | refine S35 ?_ | refine S48 ?_ | refine S49 ?_ | refine S63 ?_ | refine S66 ?_ | refine S68 ?_)
    refine CW.nrmB 3 HBx rfl ?_
    obtain ⟨F, hF⟩ : ∃ F : Nat → List Nat → LP, F = fun c rest => M r c * lapP M rs rest := ⟨_, rfl⟩
    have hlap : lapP M (r :: rs) cs = altsP F 0 [] cs := by rw [hF]; rfl
    have hB6 : (rs.length + 1) * B ≤ 1800 := Nat.le_trans (Nat.mul_le_mul (show rs.length + 1 ≤ 6 by simpa using h6) hB) (Nat.le_refl _)
    have hFs : ∀ x l, Sup 1800 (F x l) := fun x l => by
      rw [hF]
      refine (Sup.mul (hM r x) (lapP_sup hM rs l)).mono ?_
      rw [Nat.add_mul] at hB6
      omega
    refine CW.loopS (fun i : Nat × LP => i.1 ≤ cs.length ∧ Sup 1800 i.2 ∧ i.2 + altsP F i.1 (cs.take i.1) (cs.drop i.1) = lapP M (r :: rs) cs) (fun i => [(0, ppss m), (2, .ptr 1 0), (3, .ptr 3 0), (4, pint (sgn i.1)), (16, pps row), (17, pint row.length), (18, pint i.1)])
      (fun i hp => hp.blk 1 = some [pint 0, .lst true 0 0 []] ∧ hp.blk 3 = some [pint (poW i.2).1, pli (poW i.2).2] ∧ 2 ≤ hp.next) (fun i => cs.length - i.1) (0, 0) ⟨⟨Nat.zero_le _, Sup.zero, by rw [hlap, LP.zero_add]; rfl⟩, ?_, ?_⟩ ?_
    · dsimp only
      rw [show sgn 0 = 1 from rfl]
      exact SLx
    · dsimp only
      rw [poW_zero]
      exact ⟨HBx, HBx, by simp only [HP.next_set, HP.next_add, HP.next_H0]; omega⟩
    rintro ⟨i, acc⟩ t h ⟨hi, hsup, hacc⟩ ⟨b1, b3, hN⟩
    simp only at hi hsup hacc b3
    first | simp only [updS] | simp only [updL, Nat.reduceAdd]
    by_cases hi2 : i < cs.length
    · have hpl := pos_length row
      have hat := pos_at (l := row) (k := i) (by omega)
      have hent : row.getD i (0, []) = poW (M r (cs.getD i 0)) := by rw [hrow, getD_lt _ (by simpa using hi2), getD_lt 0 hi2]; simp
      rw [hent] at hat
      obtain ⟨x, hx⟩ : ∃ x, x = cs.getD i 0 := ⟨_, rfl⟩
      rw [← hx] at hat
      obtain ⟨del, hdel⟩ : ∃ del, del = cs.take i ++ cs.drop (i + 1) := ⟨_, rfl⟩
      have hdl : del.length = rs.length := by rw [hdel]; simp; omega
      have hstep := altsP_step F hi2
      rw [← hx, ← hdel] at hstep
      obtain ⟨mm, hmm⟩ : ∃ mm, mm = mat M rs cs := ⟨_, rfl⟩
      have hml : mm.length = rs.length := by rw [hmm, mat_len]
      have hm1' : m.drop 1 = mm := by rw [hm1, hmm]
      repeat (first | refine S0 ?_ | refine S1 ?_ | refine S2 ?_ | refine S3 ?_ | refine S4 ?_ | refine S5 ?_ | refine S6 ?_ | refine S7 ?_ | refine S8 ?_ | refine S9 ?_ | refine S10 ?_ | refine S11 ?_ | refine S13 ?_ | refine S15 ?_ | refine S16 ?_ | refine S19 ?_ | refine S20 ?_ | refine S21 ?_ | refine S22 ?_ | refine S23 ?_ | refine S25 ?_ | refine S26 ?_ | refine S28 ?_ | refine S35 ?_ | refine S48 ?_ | refine S49 ?_ | refine S63 ?_ | refine S66 ?_ | refine S68 ?_)
      refine AW.ldla (r := [pint (poW (M r x)).1, pli (poW (M r x)).2]) EVx rfl (by rw [List.length_drop, hpl, Int.toNat_natCast]; omega) (by rw [Int.toNat_natCast]; exact hat) ?_
      repeat (first | refine S0 ?_ | refine S1 ?_ | refine S2 ?_ | refine S3 ?_ | refine S4 ?_ | refine S5 ?_ | refine S6 ?_ | refine S7 ?_ | refine S8 ?_ | refine S9 ?_ | refine S10 ?_ | refine S11 ?_ | refine S13 ?_ | refine S15 ?_ | refine S16 ?_ | refine S19 ?_ | refine S20 ?_ | refine S21 ?_ | refine S22 ?_ | refine S23 ?_ | refine S25 ?_ | refine S26 ?_ | refine S28 ?_ | refine S35 ?_ | refine S48 ?_ | refine S49 ?_ | refine S63 ?_ | refine S66 ?_ | refine S68 ?_)
      refine AW.slFrL (q := 1) (F := pps) (xs := m) EVx rfl EVx (by omega) ?_
      rw [hm1']
      repeat (first | refine S0 ?_ | refine S1 ?_ | refine S2 ?_ | refine S3 ?_ | refine S4 ?_ | refine S5 ?_ | refine S6 ?_ | refine S7 ?_ | refine S8 ?_ | refine S9 ?_ | refine S10 ?_ | refine S11 ?_ | refine S13 ?_ | refine S15 ?_ | refine S16 ?_ | refine S19 ?_ | refine S20 ?_ | refine S21 ?_ | refine S22 ?_ | refine S23 ?_ | refine S25 ?_ | refine S26 ?_ | refine S28 ?_ | refine S35 ?_ | refine S48 ?_ | refine S49 ?_ | refine S63 ?_ | refine S66 ?_ | refine S68 ?_)
      refine CW.own 7 1 rfl ?_
      obtain ⟨T6, hT6⟩ : ∃ T6, T6 = h.tok true := ⟨_, rfl⟩
      have hT6o : T6 % 2 = 1 := by rw [hT6]; exact HP.tok_odd _
      have hT6n : T6 = 2 * h.next + 1 := by rw [hT6, HP.tokT]
      have hT6m : 4 ≤ T6 := by omega
      rw [← hT6]
      refine CW.loopS (fun j : Nat × Nat => j.1 ≤ rs.length ∧ j.2 % 2 = 0) (fun j => [(0, ppss m), (2, .ptr 1 0), (3, .ptr 3 0), (4, pint (sgn i)), (5, pint i), (6, .ptr T6 0), (7, .ref j.2 0 1 j.1), (16, pps row), (17, pint row.length), (18, pint i), (24, .lst false 1 mm.length (mm.map pps)), (25, pint mm.length), (26, pint j.1)])
        (fun j hp => hp.blk 1 = some [pint 0, .lst true 0 0 []] ∧ hp.blk 3 = some [pint (poW acc).1, pli (poW acc).2] ∧ hp.blk T6 = some [pint (poW (M r x)).1, pli (poW (M r x)).2] ∧ hp.blk j.2 = some ((mat M (rs.take j.1) del).map pps) ∧ T6 < 2 * hp.next) (fun j => rs.length - j.1) (0, 2 * (h.next + 1)) ⟨⟨Nat.zero_le _, by simp only; omega⟩, ?_, ?_⟩ ?_
      · have et : ((h.add true [.sc (.int .i64 0), .lst true 0 0 []]).set T6 [.sc (.int .i64 (poW (M r x)).1), pli (poW (M r x)).2]).tok false = 2 * (h.next + 1) := by rw [HP.tokF]; rfl
        rw [et]
        exact SLx
      · have et : ((h.add true [.sc (.int .i64 0), .lst true 0 0 []]).set T6 [.sc (.int .i64 (poW (M r x)).1), pli (poW (M r x)).2]).tok false = 2 * (h.next + 1) := by rw [HP.tokF]; rfl
        dsimp only
        refine ⟨HBx, HBx, HBx, ?_, ?_⟩
        · rw [← et]; exact HP.add_same _ _ _
        · show T6 < 2 * (h.next + 1 + 1); omega
      clear b1 b3 hN hT6 hT6n t h
      rintro ⟨j, T⟩ t h ⟨hj, hTe⟩ ⟨b1, b3, b6, bT, hT6n⟩
      simp only at hj hTe bT
      first | simp only [updS] | simp only [updL, Nat.reduceAdd]
      by_cases hj2 : j < rs.length
      · obtain ⟨y, hy⟩ : ∃ y, y = rs.getD j 0 := ⟨_, rfl⟩
        have hrow2 : mm.getD j [] = cs.map (fun c => poW (M y c)) := by
          rw [hmm, hy, getD_lt _ (by rw [mat_len]; exact hj2), getD_lt 0 hj2]; simp [mat]
        obtain ⟨rw2, hrw2⟩ : ∃ rw2, rw2 = cs.map (fun c => poW (M y c)) := ⟨_, rfl⟩
        have hrl2 : rw2.length = cs.length := by rw [hrw2]; simp
        rw [← hrw2] at hrow2
        have hcut : rw2.take i ++ rw2.drop (i + 1) = del.map (fun c => poW (M y c)) := by rw [hrw2, hdel, List.map_append, List.map_take, List.map_drop]
        have hcc := concatP_s (cs := [(false, rw2.take i), (false, rw2.drop (i + 1))]) (by simp) (by simp [flatP]; omega)
        rw [show flatP [(false, rw2.take i), (false, rw2.drop (i + 1))] = del.map (fun c => poW (M y c)) by rw [← hcut]; simp [flatP]] at hcc
        have hsn : mat M (rs.take j) del ++ [del.map (fun c => poW (M y c))] = mat M (rs.take (j + 1)) del := by
          rw [List.take_succ_eq_append_getElem hj2, hy, getD_lt 0 hj2]
          unfold mat
          rw [List.map_append]; rfl
        have hml2 : (mat M (rs.take j) del).length = j := by rw [mat_len]; simp; omega
        repeat (first | refine S0 ?_ | refine S1 ?_ | refine S2 ?_ | refine S3 ?_ | refine S4 ?_ | refine S5 ?_ | refine S6 ?_ | refine S7 ?_ | refine S8 ?_ | refine S9 ?_ | refine S10 ?_ | refine S11 ?_ | refine S13 ?_ | refine S15 ?_ | refine S16 ?_ | refine S19 ?_ | refine S20 ?_ | refine S21 ?_ | refine S22 ?_ | refine S23 ?_ | refine S25 ?_ | refine S26 ?_ | refine S28 ?_ | refine S35 ?_ | refine S48 ?_ | refine S49 ?_ | refine S63 ?_ | refine S66 ?_ | refine S68 ?_)
        rw [hrow2]
        repeat (first | refine S0 ?_ | refine S1 ?_ | refine S2 ?_ | refine S3 ?_ | refine S4 ?_ | refine S5 ?_ | refine S6 ?_ | refine S7 ?_ | refine S8 ?_ | refine S9 ?_ | refine S10 ?_ | refine S11 ?_ | refine S13 ?_ | refine S15 ?_ | refine S16 ?_ | refine S19 ?_ | refine S20 ?_ | refine S21 ?_ | refine S22 ?_ | refine S23 ?_ | refine S25 ?_ | refine S26 ?_ | refine S28 ?_ | refine S35 ?_ | refine S48 ?_ | refine S49 ?_ | refine S63 ?_ | refine S66 ?_ | refine S68 ?_)
        refine AW.slToP (q := i) (xs := rw2) EVx rfl EVx (by omega) ?_
        repeat (first | refine S0 ?_ | refine S1 ?_ | refine S2 ?_ | refine S3 ?_ | refine S4 ?_ | refine S5 ?_ | refine S6 ?_ | refine S7 ?_ | refine S8 ?_ | refine S9 ?_ | refine S10 ?_ | refine S11 ?_ | refine S13 ?_ | refine S15 ?_ | refine S16 ?_ | refine S19 ?_ | refine S20 ?_ | refine S21 ?_ | refine S22 ?_ | refine S23 ?_ | refine S25 ?_ | refine S26 ?_ | refine S28 ?_ | refine S35 ?_ | refine S48 ?_ | refine S49 ?_ | refine S63 ?_ | refine S66 ?_ | refine S68 ?_)
        refine AW.slFrP (q := i + 1) (xs := rw2) EVx rfl EVx rfl (by omega) ?_
        repeat (first | refine S0 ?_ | refine S1 ?_ | refine S2 ?_ | refine S3 ?_ | refine S4 ?_ | refine S5 ?_ | refine S6 ?_ | refine S7 ?_ | refine S8 ?_ | refine S9 ?_ | refine S10 ?_ | refine S11 ?_ | refine S13 ?_ | refine S15 ?_ | refine S16 ?_ | refine S19 ?_ | refine S20 ?_ | refine S21 ?_ | refine S22 ?_ | refine S23 ?_ | refine S25 ?_ | refine S26 ?_ | refine S28 ?_ | refine S35 ?_ | refine S48 ?_ | refine S49 ?_ | refine S63 ?_ | refine S66 ?_ | refine S68 ?_)
        refine Scall (args := [.lst true 1 2 [.lst false 2 (rw2.take i).length (pos (rw2.take i)), .lst false 2 (rw2.drop (i + 1)).length (pos (rw2.drop (i + 1)))]]) (hc := by simp only [PV.cl.clL, PV.cl, pos_cl, Bool.and_self]) hcc ?_
        repeat (first | refine S0 ?_ | refine S1 ?_ | refine S2 ?_ | refine S3 ?_ | refine S4 ?_ | refine S5 ?_ | refine S6 ?_ | refine S7 ?_ | refine S8 ?_ | refine S9 ?_ | refine S10 ?_ | refine S11 ?_ | refine S13 ?_ | refine S15 ?_ | refine S16 ?_ | refine S19 ?_ | refine S20 ?_ | refine S21 ?_ | refine S22 ?_ | refine S23 ?_ | refine S25 ?_ | refine S26 ?_ | refine S28 ?_ | refine S35 ?_ | refine S48 ?_ | refine S49 ?_ | refine S63 ?_ | refine S66 ?_ | refine S68 ?_)
        rw [show setsA [PV.lst true 0 0 []] 0 (pps (del.map fun c => poW (M y c))).cells = [pps (del.map fun c => poW (M y c))] from rfl]
        repeat (first | refine S0 ?_ | refine S1 ?_ | refine S2 ?_ | refine S3 ?_ | refine S4 ?_ | refine S5 ?_ | refine S6 ?_ | refine S7 ?_ | refine S8 ?_ | refine S9 ?_ | refine S10 ?_ | refine S11 ?_ | refine S13 ?_ | refine S15 ?_ | refine S16 ?_ | refine S19 ?_ | refine S20 ?_ | refine S21 ?_ | refine S22 ?_ | refine S23 ?_ | refine S25 ?_ | refine S26 ?_ | refine S28 ?_ | refine S35 ?_ | refine S48 ?_ | refine S49 ?_ | refine S63 ?_ | refine S66 ?_ | refine S68 ?_)
        rw [hsn]
        refine ⟨(j + 1, 2 * h.next), ⟨by simp only; omega, by simp only; omega⟩, SLx, ?_, by simp only; omega⟩
        dsimp only
        refine ⟨HBx, HBx, HBx, HBx, ?_⟩
        show T6 < 2 * (h.next + 1); omega
      · obtain rfl : j = rs.length := by omega
        rw [List.take_length] at bT
        have hl2 : (mat M rs del).length = rs.length := mat_len _ _ _
        refine CW.freezeL 7 (xs := mat M rs del) (F := pps) (by rw [hl2]; rfl) bT ?_
        repeat (first | refine S0 ?_ | refine S1 ?_ | refine S2 ?_ | refine S3 ?_ | refine S4 ?_ | refine S5 ?_ | refine S6 ?_ | refine S7 ?_ | refine S8 ?_ | refine S9 ?_ | refine S10 ?_ | refine S11 ?_ | refine S13 ?_ | refine S15 ?_ | refine S16 ?_ | refine S19 ?_ | refine S20 ?_ | refine S21 ?_ | refine S22 ?_ | refine S23 ?_ | refine S25 ?_ | refine S26 ?_ | refine S28 ?_ | refine S35 ?_ | refine S48 ?_ | refine S49 ?_ | refine S63 ?_ | refine S66 ?_ | refine S68 ?_)
        refine Scall (args := [ppss (mat M rs del)]) (hc := by simp only [PV.cl.clL, ppss_cl, Bool.and_self]) (expand_s hM hB rs del hdl.symm (by simp at h6; omega)) ?_
        repeat (first | refine S0 ?_ | refine S1 ?_ | refine S2 ?_ | refine S3 ?_ | refine S4 ?_ | refine S5 ?_ | refine S6 ?_ | refine S7 ?_ | refine S8 ?_ | refine S9 ?_ | refine S10 ?_ | refine S11 ?_ | refine S13 ?_ | refine S15 ?_ | refine S16 ?_ | refine S19 ?_ | refine S20 ?_ | refine S21 ?_ | refine S22 ?_ | refine S23 ?_ | refine S25 ?_ | refine S26 ?_ | refine S28 ?_ | refine S35 ?_ | refine S48 ?_ | refine S49 ?_ | refine S63 ?_ | refine S66 ?_ | refine S68 ?_)
        refine Scall (args := [ppo (poW (M r x)), ppo (poW (lapP M rs del))]) (timesW_s _ _ ((hM r x).mono (by omega)) ((lapP_sup hM rs del).mono (by rw [Nat.add_mul] at hB6; omega))) ?_
        repeat (first | refine S0 ?_ | refine S1 ?_ | refine S2 ?_ | refine S3 ?_ | refine S4 ?_ | refine S5 ?_ | refine S6 ?_ | refine S7 ?_ | refine S8 ?_ | refine S9 ?_ | refine S10 ?_ | refine S11 ?_ | refine S13 ?_ | refine S15 ?_ | refine S16 ?_ | refine S19 ?_ | refine S20 ?_ | refine S21 ?_ | refine S22 ?_ | refine S23 ?_ | refine S25 ?_ | refine S26 ?_ | refine S28 ?_ | refine S35 ?_ | refine S48 ?_ | refine S49 ?_ | refine S63 ?_ | refine S66 ?_ | refine S68 ?_)
        refine Scall (args := [ppo (poW acc), ppo (poW (M r x * lapP M rs del)), pint (sgn i)]) (plusW_s _ _ _ (hsup.mono (by omega)) (by have := hFs x del; rw [hF] at this; exact this.mono (by omega))) ?_
        have hsg := sgn_bd i
        have hsn := sgn_neg i
        repeat (first | refine S0 ?_ | refine S1 ?_ | refine S2 ?_ | refine S3 ?_ | refine S4 ?_ | refine S5 ?_ | refine S6 ?_ | refine S7 ?_ | refine S8 ?_ | refine S9 ?_ | refine S10 ?_ | refine S11 ?_ | refine S13 ?_ | refine S15 ?_ | refine S16 ?_ | refine S19 ?_ | refine S20 ?_ | refine S21 ?_ | refine S22 ?_ | refine S23 ?_ | refine S25 ?_ | refine S26 ?_ | refine S28 ?_ | refine S35 ?_ | refine S48 ?_ | refine S49 ?_ | refine S63 ?_ | refine S66 ?_ | refine S68 ?_)
        rw [hsn]
        refine ⟨(i + 1, acc + LP.smul (sgn i) (M r x * lapP M rs del)), ⟨by simp only; omega, ?_, ?_⟩, SLx, ?_, by simp only; omega⟩
        · have := hFs x del
          rw [hF] at this
          exact hsup.add (this.smul _)
        · simp only
          rw [← hacc, hstep, ← LP.add_assoc, hF]
        · dsimp only
          refine ⟨HBx, HBx, ?_⟩
          show 2 ≤ h.next; omega
    · obtain rfl : i = cs.length := by omega
      repeat (first | refine S0 ?_ | refine S1 ?_ | refine S2 ?_ | refine S3 ?_ | refine S4 ?_ | refine S5 ?_ | refine S6 ?_ | refine S7 ?_ | refine S8 ?_ | refine S9 ?_ | refine S10 ?_ | refine S11 ?_ | refine S13 ?_ | refine S15 ?_ | refine S16 ?_ | refine S19 ?_ | refine S20 ?_ | refine S21 ?_ | refine S22 ?_ | refine S23 ?_ | refine S25 ?_ | refine S26 ?_ | refine S28 ?_ | refine S35 ?_ | refine S48 ?_ | refine S49 ?_ | refine S63 ?_ | refine S66 ?_ | refine S68 ?_)
      rw [List.take_length, List.drop_length] at hacc
      rw [← hacc, show altsP F cs.length cs [] = 0 from rfl, LP.add_zero]
      refine ⟨.inr rfl, FR.cell1 rfl HBx rfl rfl ?_⟩
      exact .cl (by simp only [PV.cl, PV.cl.clL, pint_cl, pli_cl, Bool.and_self])
end Go.Proofs.Ytenoiklocdoemaa
