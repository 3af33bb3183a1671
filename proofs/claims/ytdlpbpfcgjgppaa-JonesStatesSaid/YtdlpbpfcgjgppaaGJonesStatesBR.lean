/- Facts and contracts that the claim uses. No condition of its own. -/
import Derived.Test.YtdlpbpfcgjgppaaGJonesStatesBP
import Derived.Test.YtdlpbpfcgjgppaaGJonesStatesBQ
set_option linter.unusedVariables false
set_option linter.unusedSimpArgs false
namespace Go.Proofs.Ytdlpbpfcgjgppaa
open Go.RowKit
def rgFst : Code → Option Nat
  | .region id _ _ => some id
  | .seq a _ => rgFst a
  | _ => none
def findL (k : Nat) : Code → Option Code
  | .loop c => if rgFst c = some k then some c else findL k c
  | .seq a b => match findL k a with | some c => some c | none => findL k b
  | .block _ c => findL k c
  | .cond _ a b => match findL k a with | some c => some c | none => findL k b
  | _ => none
noncomputable def jV (L : List StE) (D : List Int) : PV := ppo (poW (col L D))
structure JM (n : Nat) (Ds : List (List Int)) (L : List StE) : Prop where
  nd : Ds.Nodup
  ok : ∀ D ∈ Ds, Vd n D
  all : ∀ e ∈ L, e.1 ∈ Ds
theorem JM.len {n : Nat} {Ds : List (List Int)} {L : List StE} (h : JM n Ds L) : ∀ E ∈ Ds, E.length = 2 * n := fun E hE => (h.ok E hE).len
theorem col_none {L : List StE} {D : List Int} : (∀ e ∈ L, e.1 ≠ D) → col L D = 0 := by
  induction L with
  | nil => intro _; rfl
  | cons e L ih =>
    intro h
    show (e.2 * if e.1 = D then 1 else 0) + col L D = 0
    rw [if_neg (h e (by simp)), LP.mul_zero, LP.zero_add, ih fun e he => h e (by simp [he])]
theorem JM.add {n : Nat} {Ds : List (List Int)} {L : List StE} (h : JM n Ds L) {e : StE} (he : Vd n e.1) : JM n (insD Ds e.1) (L ++ [e]) :=
  ⟨insD_nd h.nd, fun D hD => (mem_insD.1 hD).elim (h.ok D) (fun e => e ▸ he), fun e' h' => mem_insD.2 (by
    rcases List.mem_append.1 h' with h' | h'
    · exact .inl (h.all e' h')
    · simp only [List.mem_singleton] at h'
      subst h'; exact .inr rfl)⟩
theorem JM.look {n : Nat} {Ds : List (List Int)} {L : List StE} (h : JM n Ds L) {D : List Int} (hD : Vd n D) : getP (Ds.map pk) (Ds.map (jV L)) (pk D) (.agg [pint 0, .lst true 0 0 []]) = if D ∈ Ds then jV L D else .agg [pint 0, .lst true 0 0 []] :=
  getP_map h.len hD.len
theorem JM.upd {n : Nat} {Ds : List (List Int)} {L : List StE} (h : JM n Ds L) {e : StE} (he : Vd n e.1) : insK (Ds.map pk) (pk e.1) = (insD Ds e.1).map pk ∧ insP (Ds.map pk) (Ds.map (jV L)) (pk e.1) (ppo (poW (col L e.1 + LP.smul 1 e.2))) = (insD Ds e.1).map (jV (L ++ [e])) := by
  refine ⟨insK_map h.len he.len, insP_map h.len he.len h.nd ?_ fun E hE => ?_⟩
  · unfold jV
    rw [col_app, col_one, if_pos rfl, LP.smul_one]
  · unfold jV
    rw [col_app, col_one, if_neg (fun e => hE e.symm), LP.add_zero]
noncomputable def visL (Ds : List (List Int)) (L : List StE) (pre : List Nat) : List StE := pre.map fun i => (Ds.getD i [], col L (Ds.getD i []))
theorem vis_all {Ds : List (List Int)} {L : List StE} {pre : List Nat} (h1 : pre.Nodup) (h2 : ∀ i ∈ pre, i < Ds.length) (h3 : ∀ i, i < Ds.length → i ∈ pre) : (visL Ds L pre).Perm (grp Ds L) := by
  have hp : pre.Perm (List.range Ds.length) := (List.perm_ext_iff_of_nodup h1 List.nodup_range).2 fun i => ⟨fun h => List.mem_range.2 (h2 i h), fun h => h3 i (List.mem_range.1 h)⟩
  have e : (List.range Ds.length).map (fun i => Ds.getD i []) = Ds := List.ext_getElem (by simp) (fun j g1 g2 => by simp [List.getD, g2])
  have := hp.map fun i => (Ds.getD i [], col L (Ds.getD i []))
  unfold visL grp
  refine this.trans (List.Perm.of_eq ?_)
  conv => rhs; rw [← e]
  rw [List.map_map]; rfl
theorem vis_snoc (Ds : List (List Int)) (L : List StE) (pre : List Nat) (i n : Nat) (x : Int) : (visL Ds L (pre ++ [i])).flatMap (two n x) = (visL Ds L pre).flatMap (two n x) ++ two n x (Ds.getD i [], col L (Ds.getD i [])) := by
  unfold visL
  rw [List.map_append, List.flatMap_append]
  simp
theorem vis_sup {n : Nat} (hn : n ≤ 6) {x : Int} (hx : x.natAbs ≠ 0 ∧ x.natAbs < n) {Ds : List (List Int)} {L : List StE} (hJ : JM n Ds L) {B : Nat} (h : supS B L) {pre : List Nat} (hp : ∀ i ∈ pre, i < Ds.length) : supS (B + 37) ((visL Ds L pre).flatMap (two n x)) := fun e he => by
  obtain ⟨e0, h0, he⟩ := List.mem_flatMap.1 he
  obtain ⟨i, hi, rfl⟩ := List.mem_map.1 h0
  have hv : Vd n (Ds.getD i []) := hJ.ok _ (by rw [getD_lt [] (hp i hi)]; exact List.getElem_mem _)
  simp only [two, List.mem_cons, List.not_mem_nil, or_false] at he
  rcases he with rfl | rfl
  · exact nx_sup hn hx hv (col_sup _ h) false
  · exact nx_sup hn hx hv (col_sup _ h) true
theorem stS_vd {n : Nat} (w : List Int) (h : lett n w) : ∀ j, j ≤ w.length → ∀ e ∈ stS n w j, Vd n e.1
  | 0, _, e, he => by
    simp only [stS, List.mem_singleton] at he
    subst he
    exact vd_tab (oneM_mt n)
  | j + 1, hj, e, he => by
    obtain ⟨e0, h0, he⟩ := List.mem_flatMap.1 he
    have hv := stS_vd w h j (by omega) e0 h0
    simp only [List.mem_cons, List.not_mem_nil, or_false] at he
    rcases he with rfl | rfl
    · exact (putD_ok hv (chM_mt (lett_get h (by omega)) false)).1
    · exact (putD_ok hv (chM_mt (lett_get h (by omega)) true)).1
theorem stS_sup {n : Nat} (hn : n ≤ 6) (w : List Int) (h : lett n w) : ∀ j, j ≤ w.length → supS (37 * j) (stS n w j)
  | 0, _, e, he => by
    simp only [stS, List.mem_singleton] at he
    subst he
    exact Sup.one (by omega)
  | j + 1, hj, e, he => by
    obtain ⟨e0, h0, he⟩ := List.mem_flatMap.1 he
    have hv := stS_vd w h j (by omega) e0 h0
    have hs := stS_sup hn w h j (by omega) e0 h0
    have hl := lett_get h (show j < w.length by omega)
    simp only [List.mem_cons, List.not_mem_nil, or_false] at he
    rcases he with rfl | rfl
    · exact (nx_sup hn hl hv hs false).mono (by omega)
    · exact (nx_sup hn hl hv hs true).mono (by omega)
theorem sumE_sup {F : List Int → LP} {B C : Nat} : ∀ {M : List StE}, supS B M → (∀ e ∈ M, Sup (C : Int) (F e.1)) → Sup ((B + C : Nat) : Int) (sumE F M)
  | [], _, _ => Sup.zero
  | e :: M, h1, h2 => (Sup.mul (h1 e (by simp)) (h2 e (by simp))).add (sumE_sup (fun e he => h1 e (by simp [he])) fun e he => h2 e (by simp [he]))
theorem stS_two (n : Nat) (w : List Int) (j : Nat) : stS n w (j + 1) = (stS n w j).flatMap (two n (w.getD j 0)) := rfl
set_option maxHeartbeats 32000000 in
set_option maxRecDepth 100000 in
theorem brk_fp {n j : Nat} {w : List Int} {x : Int} (hn : 1 ≤ n ∧ n ≤ 6) (hlx : x.natAbs ≠ 0 ∧ x.natAbs < n) (h0 : 0 < x) {D : List Int} (hDv : Vd n D) {Cv : LP} (hcs : Sup ((500 : Nat) : Int) Cv) {Lz : List StE} (hLs : supS 1000 Lz) {Da : List (List Int)} (hJa : JM n Da Lz) {t2 ti : Nat} (ht12 : t2 ≠ ti) (h1n : 1 < t2) {X : SpC} {c : Code} (hc : findL 10 (Try.f24.body.getD .skip) = some c) {Q : Exit → AS → Prop} {t : Nat → PV} {hp : HP} (hB1 : hp.blk 1 = some [pint 0, .lst true 0 0 []]) (hS2 : hp.sp t2 = some (.gmap (.arr 12) (Da.map pk) (Da.map (jV Lz)))) (hSi : hp.sp ti = some X) (hl2 : t2 < 2 * hp.next) (hli : ti < 2 * hp.next)
    (hQ : ∀ s : AS, allS [(0, pint n), (4, .ptr 1 0), (7, pint x), (8, .mref t2), (34, .itr ti), (26, pli w), (27, pint w.length), (28, pint j), (9, .lptr (ints (pk D))), (10, .lptr [pint (poW Cv).1, pli (poW Cv).2]), (46, .lst true 1 2 [pli (tabN (2 * n) (oneM n)), pli (tabN (2 * n) (cupM n (x.natAbs - 1)))]), (47, pint 2), (48, pint (1 : Nat))] s.tmps → s.hp.blk 1 = some [pint 0, .lst true 0 0 []] → s.hp.sp t2 = some (.gmap (.arr 12) ((insD Da (chS n x (D, Cv) false).1).map pk) ((insD Da (chS n x (D, Cv) false).1).map (jV (Lz ++ [chS n x (D, Cv) false])))) → s.hp.sp ti = some X → t2 < 2 * s.hp.next → ti < 2 * s.hp.next → Q .normal s) :
    CW Try.prog TT {} Try.f24.ntmps c ⟨updS [(0, pint n), (4, .ptr 1 0), (7, pint x), (8, .mref t2), (34, .itr ti), (26, pli w), (27, pint w.length), (28, pint j), (9, .lptr (ints (pk D))), (10, .lptr [pint (poW Cv).1, pli (poW Cv).2]), (46, .lst true 1 2 [pli (tabN (2 * n) (oneM n)), pli (tabN (2 * n) (cupM n (x.natAbs - 1)))]), (47, pint 2), (48, pint (0 : Nat))] t, hp⟩ Q := by
  have hc0 : findL 10 (Try.f24.body.getD .skip) = some _ := rfl
  obtain rfl := Option.some.inj (hc0.symm.trans hc)
  clear hc hc0
  have hDl := hDv.len
  have hil : (ints (pk D)).length = 12 := by rw [ints_length, pk_len (by omega)]
  have hM := chM_mt hlx false
  have kP := putD_s hn hDv hM
  have hpo := putD_ok hDv hM
  have hW := chW_cases x false
  have ksh := wt_sup x false (putD n D (chM n x false)).2
  have kpw := power_s (putD n D (chM n x false)).2 (by have := hpo.2; omega)
  have hEv : Vd n (chS n x (D, Cv) false).1 := hpo.1
  have kky := jkey_s (D := (putD n D (chM n x false)).1) (by rw [hpo.1.len]; omega)
  have hok : KT.ok (.arr 12) (pk (putD n D (chM n x false)).1) := pk_len (by rw [hpo.1.len]; omega)
  have hup := hJa.upd hEv
  have hlo := hJa.look hEv
  have hdp := dpow_sup (putD n D (chM n x false)).2
  have hEs : Sup 30000 (chS n x (D, Cv) false).2 := (nx_sup (e := (D, Cv)) hn.2 hlx hDv hcs false).mono (by omega)
  have hEd : chS n x (D, Cv) false = ((putD n D (chM n x false)).1, Cv * (LP.mono 1 (chW x false) * dpow (putD n D (chM n x false)).2)) := rfl
  rw [hEd] at hup hlo hEs hQ
  simp only at hup hlo hEs hQ
  have hcol := col_sup (putD n D (chM n x false)).1 hLs
  have ktm := timesW_s (LP.mono 1 (chW x false)) (dpow (putD n D (chM n x false)).2) ((Sup.monom 1 (chW x false) (by rcases hW with h | h <;> rw [h] <;> omega) : Sup 1 _).mono (by omega)) (hdp.mono (by have := hpo.2; omega))
  have ktm2 := timesW_s Cv (LP.mono 1 (chW x false) * dpow (putD n D (chM n x false)).2) (hcs.mono (by omega)) (ksh.mono (by have := hpo.2; omega))
  have kpl := plusW_s (col Lz (putD n D (chM n x false)).1) (Cv * (LP.mono 1 (chW x false) * dpow (putD n D (chM n x false)).2)) 1 (hcol.mono (by omega)) hEs
  have kte := termW_s 1 (chW x false) (by unfold in64; omega) (by rcases hW with h | h <;> rw [h] <;> omega)
  rw [show tabN (2 * n) (chM n x false) = tabN (2 * n) (oneM n) from rfl] at kP
  have hx0 : x ≠ 0 := fun e => hlx.1 (by rw [e]; rfl)
  have hsl : (ints (pk D)).take (2 * (n : Int)).toNat = ints D := by
    rw [show (2 * (n : Int)).toNat = D.length by omega]
    unfold pk ints
    rw [List.map_append, List.take_append_of_le_length (by simp), List.take_of_length_le (by simp)]
  generalize (putD n D (chM n x false)).1 = E1 at *
  generalize (putD n D (chM n x false)).2 = c1 at *
  have eW : chW x false = 1 := by unfold chW; simp [h0]
  rw [show ([pint 1, pint (chW x false)] : List PV) = [pint 1, pint (1)] by rw [eW]] at kte
  first | simp only [updS] | simp only [updL, Nat.reduceAdd]
  repeat (first | refine S0 ?_ | refine S1 ?_ | refine S2 ?_ | refine S3 ?_ | refine S4 ?_ | refine S5 ?_ | refine S8 ?_ | refine S11 ?_ | refine S15 ?_ | refine S16 ?_ | refine S19 ?_ | refine S20 ?_ | refine S21 ?_ | refine S22 ?_ | refine S25 ?_ | refine S26 ?_ | refine S28 ?_ | refine S30 ?_ | refine S34 ?_ | refine S47 ?_ | refine S48 ?_ | refine S51 ?_ | refine S66 ?_ | refine S68 ?_ | refine S78 ?_)
  rw [show (!(decide (((0 : Nat) : Int) = 0) == decide (0 < x))) = false by simp [h0]]
  repeat (first | refine S0 ?_ | refine S1 ?_ | refine S2 ?_ | refine S3 ?_ | refine S4 ?_ | refine S5 ?_ | refine S8 ?_ | refine S11 ?_ | refine S15 ?_ | refine S16 ?_ | refine S19 ?_ | refine S20 ?_ | refine S21 ?_ | refine S22 ?_ | refine S25 ?_ | refine S26 ?_ | refine S28 ?_ | refine S30 ?_ | refine S34 ?_ | refine S47 ?_ | refine S48 ?_ | refine S51 ?_ | refine S66 ?_ | refine S68 ?_ | refine S78 ?_)
  refine AW.slp EVx rfl EVx hil (by omega) ?_
  rw [hsl, show (2 * (n : Int)).toNat = D.length by omega]
  repeat (first | refine S0 ?_ | refine S1 ?_ | refine S2 ?_ | refine S3 ?_ | refine S4 ?_ | refine S5 ?_ | refine S8 ?_ | refine S11 ?_ | refine S15 ?_ | refine S16 ?_ | refine S19 ?_ | refine S20 ?_ | refine S21 ?_ | refine S22 ?_ | refine S25 ?_ | refine S26 ?_ | refine S28 ?_ | refine S30 ?_ | refine S34 ?_ | refine S47 ?_ | refine S48 ?_ | refine S51 ?_ | refine S66 ?_ | refine S68 ?_ | refine S78 ?_)
  refine Scall (args := [pint n, pli D, pli (tabN (2 * n) (oneM n))]) kP ?_
  repeat (first | refine S0 ?_ | refine S1 ?_ | refine S2 ?_ | refine S3 ?_ | refine S4 ?_ | refine S5 ?_ | refine S8 ?_ | refine S11 ?_ | refine S15 ?_ | refine S16 ?_ | refine S19 ?_ | refine S20 ?_ | refine S21 ?_ | refine S22 ?_ | refine S25 ?_ | refine S26 ?_ | refine S28 ?_ | refine S30 ?_ | refine S34 ?_ | refine S47 ?_ | refine S48 ?_ | refine S51 ?_ | refine S66 ?_ | refine S68 ?_ | refine S78 ?_)
  refine Scall (args := [pint 1, pint (1)]) kte ?_
  repeat (first | refine S0 ?_ | refine S1 ?_ | refine S2 ?_ | refine S3 ?_ | refine S4 ?_ | refine S5 ?_ | refine S8 ?_ | refine S11 ?_ | refine S15 ?_ | refine S16 ?_ | refine S19 ?_ | refine S20 ?_ | refine S21 ?_ | refine S22 ?_ | refine S25 ?_ | refine S26 ?_ | refine S28 ?_ | refine S30 ?_ | refine S34 ?_ | refine S47 ?_ | refine S48 ?_ | refine S51 ?_ | refine S66 ?_ | refine S68 ?_ | refine S78 ?_)
  refine Scall (args := [pint c1]) kpw ?_
  repeat (first | refine S0 ?_ | refine S1 ?_ | refine S2 ?_ | refine S3 ?_ | refine S4 ?_ | refine S5 ?_ | refine S8 ?_ | refine S11 ?_ | refine S15 ?_ | refine S16 ?_ | refine S19 ?_ | refine S20 ?_ | refine S21 ?_ | refine S22 ?_ | refine S25 ?_ | refine S26 ?_ | refine S28 ?_ | refine S30 ?_ | refine S34 ?_ | refine S47 ?_ | refine S48 ?_ | refine S51 ?_ | refine S66 ?_ | refine S68 ?_ | refine S78 ?_)
  refine Scall (args := [ppo (poW (LP.mono 1 (chW x false))), ppo (poW (dpow c1))]) ktm ?_
  repeat (first | refine S0 ?_ | refine S1 ?_ | refine S2 ?_ | refine S3 ?_ | refine S4 ?_ | refine S5 ?_ | refine S8 ?_ | refine S11 ?_ | refine S15 ?_ | refine S16 ?_ | refine S19 ?_ | refine S20 ?_ | refine S21 ?_ | refine S22 ?_ | refine S25 ?_ | refine S26 ?_ | refine S28 ?_ | refine S30 ?_ | refine S34 ?_ | refine S47 ?_ | refine S48 ?_ | refine S51 ?_ | refine S66 ?_ | refine S68 ?_ | refine S78 ?_)
  refine Scall (args := [pli E1]) kky ?_
  repeat (first | refine S0 ?_ | refine S1 ?_ | refine S2 ?_ | refine S3 ?_ | refine S4 ?_ | refine S5 ?_ | refine S8 ?_ | refine S11 ?_ | refine S15 ?_ | refine S16 ?_ | refine S19 ?_ | refine S20 ?_ | refine S21 ?_ | refine S22 ?_ | refine S25 ?_ | refine S26 ?_ | refine S28 ?_ | refine S30 ?_ | refine S34 ?_ | refine S47 ?_ | refine S48 ?_ | refine S51 ?_ | refine S66 ?_ | refine S68 ?_ | refine S78 ?_)
  refine Scall (args := [pli E1]) kky ?_
  repeat (first | refine S0 ?_ | refine S1 ?_ | refine S2 ?_ | refine S3 ?_ | refine S4 ?_ | refine S5 ?_ | refine S8 ?_ | refine S11 ?_ | refine S15 ?_ | refine S16 ?_ | refine S19 ?_ | refine S20 ?_ | refine S21 ?_ | refine S22 ?_ | refine S25 ?_ | refine S26 ?_ | refine S28 ?_ | refine S30 ?_ | refine S34 ?_ | refine S47 ?_ | refine S48 ?_ | refine S51 ?_ | refine S66 ?_ | refine S68 ?_ | refine S78 ?_)
  by_cases hin : E1 ∈ Da
  · rw [if_pos hin] at hlo
    refine AW.glkm (kk := .arr 12) (tk := t2) (key := pk E1) (p := ppo (poW (col Lz E1))) EVx EVx hok rfl rfl hS2 (by rw [lkG_f]; exact hlo) ?_
    repeat (first | refine S0 ?_ | refine S1 ?_ | refine S2 ?_ | refine S3 ?_ | refine S4 ?_ | refine S5 ?_ | refine S8 ?_ | refine S11 ?_ | refine S15 ?_ | refine S16 ?_ | refine S19 ?_ | refine S20 ?_ | refine S21 ?_ | refine S22 ?_ | refine S25 ?_ | refine S26 ?_ | refine S28 ?_ | refine S30 ?_ | refine S34 ?_ | refine S47 ?_ | refine S48 ?_ | refine S51 ?_ | refine S66 ?_ | refine S68 ?_ | refine S78 ?_)
    refine Scall (args := [ppo (poW (Cv)), ppo (poW (LP.mono 1 (chW x false) * dpow c1))]) ktm2 ?_
    repeat (first | refine S0 ?_ | refine S1 ?_ | refine S2 ?_ | refine S3 ?_ | refine S4 ?_ | refine S5 ?_ | refine S8 ?_ | refine S11 ?_ | refine S15 ?_ | refine S16 ?_ | refine S19 ?_ | refine S20 ?_ | refine S21 ?_ | refine S22 ?_ | refine S25 ?_ | refine S26 ?_ | refine S28 ?_ | refine S30 ?_ | refine S34 ?_ | refine S47 ?_ | refine S48 ?_ | refine S51 ?_ | refine S66 ?_ | refine S68 ?_ | refine S78 ?_)
    refine Scall (args := [ppo (poW (col Lz E1)), ppo (poW (Cv * (LP.mono 1 (chW x false) * dpow c1))), pint 1]) kpl ?_
    refine AW.gup (kk := .arr 12) (tk := t2) (key := pk E1) EVx EVx EVx hok rfl rfl hS2 ?_
    rw [hup.1, hup.2]
    repeat (first | refine S0 ?_ | refine S1 ?_ | refine S2 ?_ | refine S3 ?_ | refine S4 ?_ | refine S5 ?_ | refine S8 ?_ | refine S11 ?_ | refine S15 ?_ | refine S16 ?_ | refine S19 ?_ | refine S20 ?_ | refine S21 ?_ | refine S22 ?_ | refine S25 ?_ | refine S26 ?_ | refine S28 ?_ | refine S30 ?_ | refine S34 ?_ | refine S47 ?_ | refine S48 ?_ | refine S51 ?_ | refine S66 ?_ | refine S68 ?_ | refine S78 ?_)
    exact hQ _ SLx HBx (HP.setS_same _ _ _) ((HP.setS_other _ _ (fun e => ht12 e.symm)).trans hSi) (by first | omega | (simp only [HP.tokF, HP.tokT, HP.next_add, HP.next_set, HP.next_kill, HP.next_H0, HP.next_addS, HP.next_setS, HP.next_killS, HP.next_put, HP.next_bump, HP.next_putS]; omega)) (by first | omega | (simp only [HP.tokF, HP.tokT, HP.next_add, HP.next_set, HP.next_kill, HP.next_H0, HP.next_addS, HP.next_setS, HP.next_killS, HP.next_put, HP.next_bump, HP.next_putS]; omega))
  · rw [if_neg hin] at hlo
    have hc0 : col Lz E1 = 0 := col_none fun e he h => hin (h ▸ hJa.all e he)
    rw [hc0, poW0] at kpl
    have kpl3 := plus_zero kpl
    rw [hc0] at hup
    refine AW.glkm (kk := .arr 12) (tk := t2) (key := pk E1) (p := .agg [pint 0, .lst true 0 0 []]) EVx EVx hok rfl rfl hS2 (by rw [lkG_f]; exact hlo) ?_
    repeat (first | refine S0 ?_ | refine S1 ?_ | refine S2 ?_ | refine S3 ?_ | refine S4 ?_ | refine S5 ?_ | refine S8 ?_ | refine S11 ?_ | refine S15 ?_ | refine S16 ?_ | refine S19 ?_ | refine S20 ?_ | refine S21 ?_ | refine S22 ?_ | refine S25 ?_ | refine S26 ?_ | refine S28 ?_ | refine S30 ?_ | refine S34 ?_ | refine S47 ?_ | refine S48 ?_ | refine S51 ?_ | refine S66 ?_ | refine S68 ?_ | refine S78 ?_)
    refine Scall (args := [ppo (poW (Cv)), ppo (poW (LP.mono 1 (chW x false) * dpow c1))]) ktm2 ?_
    repeat (first | refine S0 ?_ | refine S1 ?_ | refine S2 ?_ | refine S3 ?_ | refine S4 ?_ | refine S5 ?_ | refine S8 ?_ | refine S11 ?_ | refine S15 ?_ | refine S16 ?_ | refine S19 ?_ | refine S20 ?_ | refine S21 ?_ | refine S22 ?_ | refine S25 ?_ | refine S26 ?_ | refine S28 ?_ | refine S30 ?_ | refine S34 ?_ | refine S47 ?_ | refine S48 ?_ | refine S51 ?_ | refine S66 ?_ | refine S68 ?_ | refine S78 ?_)
    refine Scall (args := [.agg [pint 0, .lst true 0 0 []], ppo (poW (Cv * (LP.mono 1 (chW x false) * dpow c1))), pint 1]) kpl3 ?_
    refine AW.gup (kk := .arr 12) (tk := t2) (key := pk E1) EVx EVx EVx hok rfl rfl hS2 ?_
    rw [hup.1, hup.2]
    repeat (first | refine S0 ?_ | refine S1 ?_ | refine S2 ?_ | refine S3 ?_ | refine S4 ?_ | refine S5 ?_ | refine S8 ?_ | refine S11 ?_ | refine S15 ?_ | refine S16 ?_ | refine S19 ?_ | refine S20 ?_ | refine S21 ?_ | refine S22 ?_ | refine S25 ?_ | refine S26 ?_ | refine S28 ?_ | refine S30 ?_ | refine S34 ?_ | refine S47 ?_ | refine S48 ?_ | refine S51 ?_ | refine S66 ?_ | refine S68 ?_ | refine S78 ?_)
    exact hQ _ SLx HBx (HP.setS_same _ _ _) ((HP.setS_other _ _ (fun e => ht12 e.symm)).trans hSi) (by first | omega | (simp only [HP.tokF, HP.tokT, HP.next_add, HP.next_set, HP.next_kill, HP.next_H0, HP.next_addS, HP.next_setS, HP.next_killS, HP.next_put, HP.next_bump, HP.next_putS]; omega)) (by first | omega | (simp only [HP.tokF, HP.tokT, HP.next_add, HP.next_set, HP.next_kill, HP.next_H0, HP.next_addS, HP.next_setS, HP.next_killS, HP.next_put, HP.next_bump, HP.next_putS]; omega))
set_option maxHeartbeats 32000000 in
set_option maxRecDepth 100000 in
theorem brk_fn {n j : Nat} {w : List Int} {x : Int} (hn : 1 ≤ n ∧ n ≤ 6) (hlx : x.natAbs ≠ 0 ∧ x.natAbs < n) (h0 : ¬ 0 < x) {D : List Int} (hDv : Vd n D) {Cv : LP} (hcs : Sup ((500 : Nat) : Int) Cv) {Lz : List StE} (hLs : supS 1000 Lz) {Da : List (List Int)} (hJa : JM n Da Lz) {t2 ti : Nat} (ht12 : t2 ≠ ti) (h1n : 1 < t2) {X : SpC} {c : Code} (hc : findL 10 (Try.f24.body.getD .skip) = some c) {Q : Exit → AS → Prop} {t : Nat → PV} {hp : HP} (hB1 : hp.blk 1 = some [pint 0, .lst true 0 0 []]) (hS2 : hp.sp t2 = some (.gmap (.arr 12) (Da.map pk) (Da.map (jV Lz)))) (hSi : hp.sp ti = some X) (hl2 : t2 < 2 * hp.next) (hli : ti < 2 * hp.next)
    (hQ : ∀ s : AS, allS [(0, pint n), (4, .ptr 1 0), (7, pint x), (8, .mref t2), (34, .itr ti), (26, pli w), (27, pint w.length), (28, pint j), (9, .lptr (ints (pk D))), (10, .lptr [pint (poW Cv).1, pli (poW Cv).2]), (46, .lst true 1 2 [pli (tabN (2 * n) (oneM n)), pli (tabN (2 * n) (cupM n (x.natAbs - 1)))]), (47, pint 2), (48, pint (1 : Nat))] s.tmps → s.hp.blk 1 = some [pint 0, .lst true 0 0 []] → s.hp.sp t2 = some (.gmap (.arr 12) ((insD Da (chS n x (D, Cv) false).1).map pk) ((insD Da (chS n x (D, Cv) false).1).map (jV (Lz ++ [chS n x (D, Cv) false])))) → s.hp.sp ti = some X → t2 < 2 * s.hp.next → ti < 2 * s.hp.next → Q .normal s) :
    CW Try.prog TT {} Try.f24.ntmps c ⟨updS [(0, pint n), (4, .ptr 1 0), (7, pint x), (8, .mref t2), (34, .itr ti), (26, pli w), (27, pint w.length), (28, pint j), (9, .lptr (ints (pk D))), (10, .lptr [pint (poW Cv).1, pli (poW Cv).2]), (46, .lst true 1 2 [pli (tabN (2 * n) (oneM n)), pli (tabN (2 * n) (cupM n (x.natAbs - 1)))]), (47, pint 2), (48, pint (0 : Nat))] t, hp⟩ Q := by
  have hc0 : findL 10 (Try.f24.body.getD .skip) = some _ := rfl
  obtain rfl := Option.some.inj (hc0.symm.trans hc)
  clear hc hc0
  have hDl := hDv.len
  have hil : (ints (pk D)).length = 12 := by rw [ints_length, pk_len (by omega)]
  have hM := chM_mt hlx false
  have kP := putD_s hn hDv hM
  have hpo := putD_ok hDv hM
  have hW := chW_cases x false
  have ksh := wt_sup x false (putD n D (chM n x false)).2
  have kpw := power_s (putD n D (chM n x false)).2 (by have := hpo.2; omega)
  have hEv : Vd n (chS n x (D, Cv) false).1 := hpo.1
  have kky := jkey_s (D := (putD n D (chM n x false)).1) (by rw [hpo.1.len]; omega)
  have hok : KT.ok (.arr 12) (pk (putD n D (chM n x false)).1) := pk_len (by rw [hpo.1.len]; omega)
  have hup := hJa.upd hEv
  have hlo := hJa.look hEv
  have hdp := dpow_sup (putD n D (chM n x false)).2
  have hEs : Sup 30000 (chS n x (D, Cv) false).2 := (nx_sup (e := (D, Cv)) hn.2 hlx hDv hcs false).mono (by omega)
  have hEd : chS n x (D, Cv) false = ((putD n D (chM n x false)).1, Cv * (LP.mono 1 (chW x false) * dpow (putD n D (chM n x false)).2)) := rfl
  rw [hEd] at hup hlo hEs hQ
  simp only at hup hlo hEs hQ
  have hcol := col_sup (putD n D (chM n x false)).1 hLs
  have ktm := timesW_s (LP.mono 1 (chW x false)) (dpow (putD n D (chM n x false)).2) ((Sup.monom 1 (chW x false) (by rcases hW with h | h <;> rw [h] <;> omega) : Sup 1 _).mono (by omega)) (hdp.mono (by have := hpo.2; omega))
  have ktm2 := timesW_s Cv (LP.mono 1 (chW x false) * dpow (putD n D (chM n x false)).2) (hcs.mono (by omega)) (ksh.mono (by have := hpo.2; omega))
  have kpl := plusW_s (col Lz (putD n D (chM n x false)).1) (Cv * (LP.mono 1 (chW x false) * dpow (putD n D (chM n x false)).2)) 1 (hcol.mono (by omega)) hEs
  have kte := termW_s 1 (chW x false) (by unfold in64; omega) (by rcases hW with h | h <;> rw [h] <;> omega)
  rw [show tabN (2 * n) (chM n x false) = tabN (2 * n) (oneM n) from rfl] at kP
  have hx0 : x ≠ 0 := fun e => hlx.1 (by rw [e]; rfl)
  have hsl : (ints (pk D)).take (2 * (n : Int)).toNat = ints D := by
    rw [show (2 * (n : Int)).toNat = D.length by omega]
    unfold pk ints
    rw [List.map_append, List.take_append_of_le_length (by simp), List.take_of_length_le (by simp)]
  generalize (putD n D (chM n x false)).1 = E1 at *
  generalize (putD n D (chM n x false)).2 = c1 at *
  have eW : chW x false = -1 := by unfold chW; simp [h0]
  rw [show ([pint 1, pint (chW x false)] : List PV) = [pint 1, pint (-1)] by rw [eW]] at kte
  first | simp only [updS] | simp only [updL, Nat.reduceAdd]
  repeat (first | refine S0 ?_ | refine S1 ?_ | refine S2 ?_ | refine S3 ?_ | refine S4 ?_ | refine S5 ?_ | refine S8 ?_ | refine S11 ?_ | refine S15 ?_ | refine S19 ?_ | refine S20 ?_ | refine S21 ?_ | refine S22 ?_ | refine S25 ?_ | refine S26 ?_ | refine S28 ?_ | refine S30 ?_ | refine S34 ?_ | refine S47 ?_ | refine S48 ?_ | refine S51 ?_ | refine S66 ?_ | refine S68 ?_ | refine S78 ?_)
  rw [show (!(decide (((0 : Nat) : Int) = 0) == decide (0 < x))) = true by simp [h0]]
  repeat (first | refine S0 ?_ | refine S1 ?_ | refine S2 ?_ | refine S3 ?_ | refine S4 ?_ | refine S5 ?_ | refine S8 ?_ | refine S11 ?_ | refine S15 ?_ | refine S19 ?_ | refine S20 ?_ | refine S21 ?_ | refine S22 ?_ | refine S25 ?_ | refine S26 ?_ | refine S28 ?_ | refine S30 ?_ | refine S34 ?_ | refine S47 ?_ | refine S48 ?_ | refine S51 ?_ | refine S66 ?_ | refine S68 ?_ | refine S78 ?_)
  refine AW.slp EVx rfl EVx hil (by omega) ?_
  rw [hsl, show (2 * (n : Int)).toNat = D.length by omega]
  repeat (first | refine S0 ?_ | refine S1 ?_ | refine S2 ?_ | refine S3 ?_ | refine S4 ?_ | refine S5 ?_ | refine S8 ?_ | refine S11 ?_ | refine S15 ?_ | refine S19 ?_ | refine S20 ?_ | refine S21 ?_ | refine S22 ?_ | refine S25 ?_ | refine S26 ?_ | refine S28 ?_ | refine S30 ?_ | refine S34 ?_ | refine S47 ?_ | refine S48 ?_ | refine S51 ?_ | refine S66 ?_ | refine S68 ?_ | refine S78 ?_)
  refine Scall (args := [pint n, pli D, pli (tabN (2 * n) (oneM n))]) kP ?_
  repeat (first | refine S0 ?_ | refine S1 ?_ | refine S2 ?_ | refine S3 ?_ | refine S4 ?_ | refine S5 ?_ | refine S8 ?_ | refine S11 ?_ | refine S15 ?_ | refine S19 ?_ | refine S20 ?_ | refine S21 ?_ | refine S22 ?_ | refine S25 ?_ | refine S26 ?_ | refine S28 ?_ | refine S30 ?_ | refine S34 ?_ | refine S47 ?_ | refine S48 ?_ | refine S51 ?_ | refine S66 ?_ | refine S68 ?_ | refine S78 ?_)
  refine Scall (args := [pint 1, pint (-1)]) kte ?_
  repeat (first | refine S0 ?_ | refine S1 ?_ | refine S2 ?_ | refine S3 ?_ | refine S4 ?_ | refine S5 ?_ | refine S8 ?_ | refine S11 ?_ | refine S15 ?_ | refine S19 ?_ | refine S20 ?_ | refine S21 ?_ | refine S22 ?_ | refine S25 ?_ | refine S26 ?_ | refine S28 ?_ | refine S30 ?_ | refine S34 ?_ | refine S47 ?_ | refine S48 ?_ | refine S51 ?_ | refine S66 ?_ | refine S68 ?_ | refine S78 ?_)
  refine Scall (args := [pint c1]) kpw ?_
  repeat (first | refine S0 ?_ | refine S1 ?_ | refine S2 ?_ | refine S3 ?_ | refine S4 ?_ | refine S5 ?_ | refine S8 ?_ | refine S11 ?_ | refine S15 ?_ | refine S19 ?_ | refine S20 ?_ | refine S21 ?_ | refine S22 ?_ | refine S25 ?_ | refine S26 ?_ | refine S28 ?_ | refine S30 ?_ | refine S34 ?_ | refine S47 ?_ | refine S48 ?_ | refine S51 ?_ | refine S66 ?_ | refine S68 ?_ | refine S78 ?_)
  refine Scall (args := [ppo (poW (LP.mono 1 (chW x false))), ppo (poW (dpow c1))]) ktm ?_
  repeat (first | refine S0 ?_ | refine S1 ?_ | refine S2 ?_ | refine S3 ?_ | refine S4 ?_ | refine S5 ?_ | refine S8 ?_ | refine S11 ?_ | refine S15 ?_ | refine S19 ?_ | refine S20 ?_ | refine S21 ?_ | refine S22 ?_ | refine S25 ?_ | refine S26 ?_ | refine S28 ?_ | refine S30 ?_ | refine S34 ?_ | refine S47 ?_ | refine S48 ?_ | refine S51 ?_ | refine S66 ?_ | refine S68 ?_ | refine S78 ?_)
  refine Scall (args := [pli E1]) kky ?_
  repeat (first | refine S0 ?_ | refine S1 ?_ | refine S2 ?_ | refine S3 ?_ | refine S4 ?_ | refine S5 ?_ | refine S8 ?_ | refine S11 ?_ | refine S15 ?_ | refine S19 ?_ | refine S20 ?_ | refine S21 ?_ | refine S22 ?_ | refine S25 ?_ | refine S26 ?_ | refine S28 ?_ | refine S30 ?_ | refine S34 ?_ | refine S47 ?_ | refine S48 ?_ | refine S51 ?_ | refine S66 ?_ | refine S68 ?_ | refine S78 ?_)
  refine Scall (args := [pli E1]) kky ?_
  repeat (first | refine S0 ?_ | refine S1 ?_ | refine S2 ?_ | refine S3 ?_ | refine S4 ?_ | refine S5 ?_ | refine S8 ?_ | refine S11 ?_ | refine S15 ?_ | refine S19 ?_ | refine S20 ?_ | refine S21 ?_ | refine S22 ?_ | refine S25 ?_ | refine S26 ?_ | refine S28 ?_ | refine S30 ?_ | refine S34 ?_ | refine S47 ?_ | refine S48 ?_ | refine S51 ?_ | refine S66 ?_ | refine S68 ?_ | refine S78 ?_)
  by_cases hin : E1 ∈ Da
  · rw [if_pos hin] at hlo
    refine AW.glkm (kk := .arr 12) (tk := t2) (key := pk E1) (p := ppo (poW (col Lz E1))) EVx EVx hok rfl rfl hS2 (by rw [lkG_f]; exact hlo) ?_
    repeat (first | refine S0 ?_ | refine S1 ?_ | refine S2 ?_ | refine S3 ?_ | refine S4 ?_ | refine S5 ?_ | refine S8 ?_ | refine S11 ?_ | refine S15 ?_ | refine S19 ?_ | refine S20 ?_ | refine S21 ?_ | refine S22 ?_ | refine S25 ?_ | refine S26 ?_ | refine S28 ?_ | refine S30 ?_ | refine S34 ?_ | refine S47 ?_ | refine S48 ?_ | refine S51 ?_ | refine S66 ?_ | refine S68 ?_ | refine S78 ?_)
    refine Scall (args := [ppo (poW (Cv)), ppo (poW (LP.mono 1 (chW x false) * dpow c1))]) ktm2 ?_
    repeat (first | refine S0 ?_ | refine S1 ?_ | refine S2 ?_ | refine S3 ?_ | refine S4 ?_ | refine S5 ?_ | refine S8 ?_ | refine S11 ?_ | refine S15 ?_ | refine S19 ?_ | refine S20 ?_ | refine S21 ?_ | refine S22 ?_ | refine S25 ?_ | refine S26 ?_ | refine S28 ?_ | refine S30 ?_ | refine S34 ?_ | refine S47 ?_ | refine S48 ?_ | refine S51 ?_ | refine S66 ?_ | refine S68 ?_ | refine S78 ?_)
    refine Scall (args := [ppo (poW (col Lz E1)), ppo (poW (Cv * (LP.mono 1 (chW x false) * dpow c1))), pint 1]) kpl ?_
    refine AW.gup (kk := .arr 12) (tk := t2) (key := pk E1) EVx EVx EVx hok rfl rfl hS2 ?_
    rw [hup.1, hup.2]
    repeat (first | refine S0 ?_ | refine S1 ?_ | refine S2 ?_ | refine S3 ?_ | refine S4 ?_ | refine S5 ?_ | refine S8 ?_ | refine S11 ?_ | refine S15 ?_ | refine S19 ?_ | refine S20 ?_ | refine S21 ?_ | refine S22 ?_ | refine S25 ?_ | refine S26 ?_ | refine S28 ?_ | refine S30 ?_ | refine S34 ?_ | refine S47 ?_ | refine S48 ?_ | refine S51 ?_ | refine S66 ?_ | refine S68 ?_ | refine S78 ?_)
    exact hQ _ SLx HBx (HP.setS_same _ _ _) ((HP.setS_other _ _ (fun e => ht12 e.symm)).trans hSi) (by first | omega | (simp only [HP.tokF, HP.tokT, HP.next_add, HP.next_set, HP.next_kill, HP.next_H0, HP.next_addS, HP.next_setS, HP.next_killS, HP.next_put, HP.next_bump, HP.next_putS]; omega)) (by first | omega | (simp only [HP.tokF, HP.tokT, HP.next_add, HP.next_set, HP.next_kill, HP.next_H0, HP.next_addS, HP.next_setS, HP.next_killS, HP.next_put, HP.next_bump, HP.next_putS]; omega))
  · rw [if_neg hin] at hlo
    have hc0 : col Lz E1 = 0 := col_none fun e he h => hin (h ▸ hJa.all e he)
    rw [hc0, poW0] at kpl
    have kpl3 := plus_zero kpl
    rw [hc0] at hup
    refine AW.glkm (kk := .arr 12) (tk := t2) (key := pk E1) (p := .agg [pint 0, .lst true 0 0 []]) EVx EVx hok rfl rfl hS2 (by rw [lkG_f]; exact hlo) ?_
    repeat (first | refine S0 ?_ | refine S1 ?_ | refine S2 ?_ | refine S3 ?_ | refine S4 ?_ | refine S5 ?_ | refine S8 ?_ | refine S11 ?_ | refine S15 ?_ | refine S19 ?_ | refine S20 ?_ | refine S21 ?_ | refine S22 ?_ | refine S25 ?_ | refine S26 ?_ | refine S28 ?_ | refine S30 ?_ | refine S34 ?_ | refine S47 ?_ | refine S48 ?_ | refine S51 ?_ | refine S66 ?_ | refine S68 ?_ | refine S78 ?_)
    refine Scall (args := [ppo (poW (Cv)), ppo (poW (LP.mono 1 (chW x false) * dpow c1))]) ktm2 ?_
    repeat (first | refine S0 ?_ | refine S1 ?_ | refine S2 ?_ | refine S3 ?_ | refine S4 ?_ | refine S5 ?_ | refine S8 ?_ | refine S11 ?_ | refine S15 ?_ | refine S19 ?_ | refine S20 ?_ | refine S21 ?_ | refine S22 ?_ | refine S25 ?_ | refine S26 ?_ | refine S28 ?_ | refine S30 ?_ | refine S34 ?_ | refine S47 ?_ | refine S48 ?_ | refine S51 ?_ | refine S66 ?_ | refine S68 ?_ | refine S78 ?_)
    refine Scall (args := [.agg [pint 0, .lst true 0 0 []], ppo (poW (Cv * (LP.mono 1 (chW x false) * dpow c1))), pint 1]) kpl3 ?_
    refine AW.gup (kk := .arr 12) (tk := t2) (key := pk E1) EVx EVx EVx hok rfl rfl hS2 ?_
    rw [hup.1, hup.2]
    repeat (first | refine S0 ?_ | refine S1 ?_ | refine S2 ?_ | refine S3 ?_ | refine S4 ?_ | refine S5 ?_ | refine S8 ?_ | refine S11 ?_ | refine S15 ?_ | refine S19 ?_ | refine S20 ?_ | refine S21 ?_ | refine S22 ?_ | refine S25 ?_ | refine S26 ?_ | refine S28 ?_ | refine S30 ?_ | refine S34 ?_ | refine S47 ?_ | refine S48 ?_ | refine S51 ?_ | refine S66 ?_ | refine S68 ?_ | refine S78 ?_)
    exact hQ _ SLx HBx (HP.setS_same _ _ _) ((HP.setS_other _ _ (fun e => ht12 e.symm)).trans hSi) (by first | omega | (simp only [HP.tokF, HP.tokT, HP.next_add, HP.next_set, HP.next_kill, HP.next_H0, HP.next_addS, HP.next_setS, HP.next_killS, HP.next_put, HP.next_bump, HP.next_putS]; omega)) (by first | omega | (simp only [HP.tokF, HP.tokT, HP.next_add, HP.next_set, HP.next_kill, HP.next_H0, HP.next_addS, HP.next_setS, HP.next_killS, HP.next_put, HP.next_bump, HP.next_putS]; omega))
set_option maxHeartbeats 32000000 in
set_option maxRecDepth 100000 in
theorem brk_tp {n j : Nat} {w : List Int} {x : Int} (hn : 1 ≤ n ∧ n ≤ 6) (hlx : x.natAbs ≠ 0 ∧ x.natAbs < n) (h0 : 0 < x) {D : List Int} (hDv : Vd n D) {Cv : LP} (hcs : Sup ((500 : Nat) : Int) Cv) {Lz : List StE} (hLs : supS 1000 Lz) {Da : List (List Int)} (hJa : JM n Da Lz) {t2 ti : Nat} (ht12 : t2 ≠ ti) (h1n : 1 < t2) {X : SpC} {c : Code} (hc : findL 10 (Try.f24.body.getD .skip) = some c) {Q : Exit → AS → Prop} {t : Nat → PV} {hp : HP} (hB1 : hp.blk 1 = some [pint 0, .lst true 0 0 []]) (hS2 : hp.sp t2 = some (.gmap (.arr 12) (Da.map pk) (Da.map (jV Lz)))) (hSi : hp.sp ti = some X) (hl2 : t2 < 2 * hp.next) (hli : ti < 2 * hp.next)
    (hQ : ∀ s : AS, allS [(0, pint n), (4, .ptr 1 0), (7, pint x), (8, .mref t2), (34, .itr ti), (26, pli w), (27, pint w.length), (28, pint j), (9, .lptr (ints (pk D))), (10, .lptr [pint (poW Cv).1, pli (poW Cv).2]), (46, .lst true 1 2 [pli (tabN (2 * n) (oneM n)), pli (tabN (2 * n) (cupM n (x.natAbs - 1)))]), (47, pint 2), (48, pint (2 : Nat))] s.tmps → s.hp.blk 1 = some [pint 0, .lst true 0 0 []] → s.hp.sp t2 = some (.gmap (.arr 12) ((insD Da (chS n x (D, Cv) true).1).map pk) ((insD Da (chS n x (D, Cv) true).1).map (jV (Lz ++ [chS n x (D, Cv) true])))) → s.hp.sp ti = some X → t2 < 2 * s.hp.next → ti < 2 * s.hp.next → Q .normal s) :
    CW Try.prog TT {} Try.f24.ntmps c ⟨updS [(0, pint n), (4, .ptr 1 0), (7, pint x), (8, .mref t2), (34, .itr ti), (26, pli w), (27, pint w.length), (28, pint j), (9, .lptr (ints (pk D))), (10, .lptr [pint (poW Cv).1, pli (poW Cv).2]), (46, .lst true 1 2 [pli (tabN (2 * n) (oneM n)), pli (tabN (2 * n) (cupM n (x.natAbs - 1)))]), (47, pint 2), (48, pint (1 : Nat))] t, hp⟩ Q := by
  have hc0 : findL 10 (Try.f24.body.getD .skip) = some _ := rfl
  obtain rfl := Option.some.inj (hc0.symm.trans hc)
  clear hc hc0
  have hDl := hDv.len
  have hil : (ints (pk D)).length = 12 := by rw [ints_length, pk_len (by omega)]
  have hM := chM_mt hlx true
  have kP := putD_s hn hDv hM
  have hpo := putD_ok hDv hM
  have hW := chW_cases x true
  have ksh := wt_sup x true (putD n D (chM n x true)).2
  have kpw := power_s (putD n D (chM n x true)).2 (by have := hpo.2; omega)
  have hEv : Vd n (chS n x (D, Cv) true).1 := hpo.1
  have kky := jkey_s (D := (putD n D (chM n x true)).1) (by rw [hpo.1.len]; omega)
  have hok : KT.ok (.arr 12) (pk (putD n D (chM n x true)).1) := pk_len (by rw [hpo.1.len]; omega)
  have hup := hJa.upd hEv
  have hlo := hJa.look hEv
  have hdp := dpow_sup (putD n D (chM n x true)).2
  have hEs : Sup 30000 (chS n x (D, Cv) true).2 := (nx_sup (e := (D, Cv)) hn.2 hlx hDv hcs true).mono (by omega)
  have hEd : chS n x (D, Cv) true = ((putD n D (chM n x true)).1, Cv * (LP.mono 1 (chW x true) * dpow (putD n D (chM n x true)).2)) := rfl
  rw [hEd] at hup hlo hEs hQ
  simp only at hup hlo hEs hQ
  have hcol := col_sup (putD n D (chM n x true)).1 hLs
  have ktm := timesW_s (LP.mono 1 (chW x true)) (dpow (putD n D (chM n x true)).2) ((Sup.monom 1 (chW x true) (by rcases hW with h | h <;> rw [h] <;> omega) : Sup 1 _).mono (by omega)) (hdp.mono (by have := hpo.2; omega))
  have ktm2 := timesW_s Cv (LP.mono 1 (chW x true) * dpow (putD n D (chM n x true)).2) (hcs.mono (by omega)) (ksh.mono (by have := hpo.2; omega))
  have kpl := plusW_s (col Lz (putD n D (chM n x true)).1) (Cv * (LP.mono 1 (chW x true) * dpow (putD n D (chM n x true)).2)) 1 (hcol.mono (by omega)) hEs
  have kte := termW_s 1 (chW x true) (by unfold in64; omega) (by rcases hW with h | h <;> rw [h] <;> omega)
  rw [show tabN (2 * n) (chM n x true) = tabN (2 * n) (cupM n (x.natAbs - 1)) from rfl] at kP
  have hx0 : x ≠ 0 := fun e => hlx.1 (by rw [e]; rfl)
  have hsl : (ints (pk D)).take (2 * (n : Int)).toNat = ints D := by
    rw [show (2 * (n : Int)).toNat = D.length by omega]
    unfold pk ints
    rw [List.map_append, List.take_append_of_le_length (by simp), List.take_of_length_le (by simp)]
  generalize (putD n D (chM n x true)).1 = E1 at *
  generalize (putD n D (chM n x true)).2 = c1 at *
  have eW : chW x true = -1 := by unfold chW; simp [h0]
  rw [show ([pint 1, pint (chW x true)] : List PV) = [pint 1, pint (-1)] by rw [eW]] at kte
  first | simp only [updS] | simp only [updL, Nat.reduceAdd]
  repeat (first | refine S0 ?_ | refine S1 ?_ | refine S2 ?_ | refine S3 ?_ | refine S4 ?_ | refine S5 ?_ | refine S8 ?_ | refine S11 ?_ | refine S15 ?_ | refine S19 ?_ | refine S20 ?_ | refine S21 ?_ | refine S22 ?_ | refine S25 ?_ | refine S26 ?_ | refine S28 ?_ | refine S30 ?_ | refine S34 ?_ | refine S47 ?_ | refine S48 ?_ | refine S51 ?_ | refine S66 ?_ | refine S68 ?_ | refine S78 ?_)
  rw [show (!(decide (((1 : Nat) : Int) = 0) == decide (0 < x))) = true by simp [h0]]
  repeat (first | refine S0 ?_ | refine S1 ?_ | refine S2 ?_ | refine S3 ?_ | refine S4 ?_ | refine S5 ?_ | refine S8 ?_ | refine S11 ?_ | refine S15 ?_ | refine S19 ?_ | refine S20 ?_ | refine S21 ?_ | refine S22 ?_ | refine S25 ?_ | refine S26 ?_ | refine S28 ?_ | refine S30 ?_ | refine S34 ?_ | refine S47 ?_ | refine S48 ?_ | refine S51 ?_ | refine S66 ?_ | refine S68 ?_ | refine S78 ?_)
  refine AW.slp EVx rfl EVx hil (by omega) ?_
  rw [hsl, show (2 * (n : Int)).toNat = D.length by omega]
  repeat (first | refine S0 ?_ | refine S1 ?_ | refine S2 ?_ | refine S3 ?_ | refine S4 ?_ | refine S5 ?_ | refine S8 ?_ | refine S11 ?_ | refine S15 ?_ | refine S19 ?_ | refine S20 ?_ | refine S21 ?_ | refine S22 ?_ | refine S25 ?_ | refine S26 ?_ | refine S28 ?_ | refine S30 ?_ | refine S34 ?_ | refine S47 ?_ | refine S48 ?_ | refine S51 ?_ | refine S66 ?_ | refine S68 ?_ | refine S78 ?_)
  refine Scall (args := [pint n, pli D, pli (tabN (2 * n) (cupM n (x.natAbs - 1)))]) kP ?_
  repeat (first | refine S0 ?_ | refine S1 ?_ | refine S2 ?_ | refine S3 ?_ | refine S4 ?_ | refine S5 ?_ | refine S8 ?_ | refine S11 ?_ | refine S15 ?_ | refine S19 ?_ | refine S20 ?_ | refine S21 ?_ | refine S22 ?_ | refine S25 ?_ | refine S26 ?_ | refine S28 ?_ | refine S30 ?_ | refine S34 ?_ | refine S47 ?_ | refine S48 ?_ | refine S51 ?_ | refine S66 ?_ | refine S68 ?_ | refine S78 ?_)
  refine Scall (args := [pint 1, pint (-1)]) kte ?_
  repeat (first | refine S0 ?_ | refine S1 ?_ | refine S2 ?_ | refine S3 ?_ | refine S4 ?_ | refine S5 ?_ | refine S8 ?_ | refine S11 ?_ | refine S15 ?_ | refine S19 ?_ | refine S20 ?_ | refine S21 ?_ | refine S22 ?_ | refine S25 ?_ | refine S26 ?_ | refine S28 ?_ | refine S30 ?_ | refine S34 ?_ | refine S47 ?_ | refine S48 ?_ | refine S51 ?_ | refine S66 ?_ | refine S68 ?_ | refine S78 ?_)
  refine Scall (args := [pint c1]) kpw ?_
  repeat (first | refine S0 ?_ | refine S1 ?_ | refine S2 ?_ | refine S3 ?_ | refine S4 ?_ | refine S5 ?_ | refine S8 ?_ | refine S11 ?_ | refine S15 ?_ | refine S19 ?_ | refine S20 ?_ | refine S21 ?_ | refine S22 ?_ | refine S25 ?_ | refine S26 ?_ | refine S28 ?_ | refine S30 ?_ | refine S34 ?_ | refine S47 ?_ | refine S48 ?_ | refine S51 ?_ | refine S66 ?_ | refine S68 ?_ | refine S78 ?_)
  refine Scall (args := [ppo (poW (LP.mono 1 (chW x true))), ppo (poW (dpow c1))]) ktm ?_
  repeat (first | refine S0 ?_ | refine S1 ?_ | refine S2 ?_ | refine S3 ?_ | refine S4 ?_ | refine S5 ?_ | refine S8 ?_ | refine S11 ?_ | refine S15 ?_ | refine S19 ?_ | refine S20 ?_ | refine S21 ?_ | refine S22 ?_ | refine S25 ?_ | refine S26 ?_ | refine S28 ?_ | refine S30 ?_ | refine S34 ?_ | refine S47 ?_ | refine S48 ?_ | refine S51 ?_ | refine S66 ?_ | refine S68 ?_ | refine S78 ?_)
  refine Scall (args := [pli E1]) kky ?_
  repeat (first | refine S0 ?_ | refine S1 ?_ | refine S2 ?_ | refine S3 ?_ | refine S4 ?_ | refine S5 ?_ | refine S8 ?_ | refine S11 ?_ | refine S15 ?_ | refine S19 ?_ | refine S20 ?_ | refine S21 ?_ | refine S22 ?_ | refine S25 ?_ | refine S26 ?_ | refine S28 ?_ | refine S30 ?_ | refine S34 ?_ | refine S47 ?_ | refine S48 ?_ | refine S51 ?_ | refine S66 ?_ | refine S68 ?_ | refine S78 ?_)
  refine Scall (args := [pli E1]) kky ?_
  repeat (first | refine S0 ?_ | refine S1 ?_ | refine S2 ?_ | refine S3 ?_ | refine S4 ?_ | refine S5 ?_ | refine S8 ?_ | refine S11 ?_ | refine S15 ?_ | refine S19 ?_ | refine S20 ?_ | refine S21 ?_ | refine S22 ?_ | refine S25 ?_ | refine S26 ?_ | refine S28 ?_ | refine S30 ?_ | refine S34 ?_ | refine S47 ?_ | refine S48 ?_ | refine S51 ?_ | refine S66 ?_ | refine S68 ?_ | refine S78 ?_)
  by_cases hin : E1 ∈ Da
  · rw [if_pos hin] at hlo
    refine AW.glkm (kk := .arr 12) (tk := t2) (key := pk E1) (p := ppo (poW (col Lz E1))) EVx EVx hok rfl rfl hS2 (by rw [lkG_f]; exact hlo) ?_
    repeat (first | refine S0 ?_ | refine S1 ?_ | refine S2 ?_ | refine S3 ?_ | refine S4 ?_ | refine S5 ?_ | refine S8 ?_ | refine S11 ?_ | refine S15 ?_ | refine S19 ?_ | refine S20 ?_ | refine S21 ?_ | refine S22 ?_ | refine S25 ?_ | refine S26 ?_ | refine S28 ?_ | refine S30 ?_ | refine S34 ?_ | refine S47 ?_ | refine S48 ?_ | refine S51 ?_ | refine S66 ?_ | refine S68 ?_ | refine S78 ?_)
    refine Scall (args := [ppo (poW (Cv)), ppo (poW (LP.mono 1 (chW x true) * dpow c1))]) ktm2 ?_
    repeat (first | refine S0 ?_ | refine S1 ?_ | refine S2 ?_ | refine S3 ?_ | refine S4 ?_ | refine S5 ?_ | refine S8 ?_ | refine S11 ?_ | refine S15 ?_ | refine S19 ?_ | refine S20 ?_ | refine S21 ?_ | refine S22 ?_ | refine S25 ?_ | refine S26 ?_ | refine S28 ?_ | refine S30 ?_ | refine S34 ?_ | refine S47 ?_ | refine S48 ?_ | refine S51 ?_ | refine S66 ?_ | refine S68 ?_ | refine S78 ?_)
    refine Scall (args := [ppo (poW (col Lz E1)), ppo (poW (Cv * (LP.mono 1 (chW x true) * dpow c1))), pint 1]) kpl ?_
    refine AW.gup (kk := .arr 12) (tk := t2) (key := pk E1) EVx EVx EVx hok rfl rfl hS2 ?_
    rw [hup.1, hup.2]
    repeat (first | refine S0 ?_ | refine S1 ?_ | refine S2 ?_ | refine S3 ?_ | refine S4 ?_ | refine S5 ?_ | refine S8 ?_ | refine S11 ?_ | refine S15 ?_ | refine S19 ?_ | refine S20 ?_ | refine S21 ?_ | refine S22 ?_ | refine S25 ?_ | refine S26 ?_ | refine S28 ?_ | refine S30 ?_ | refine S34 ?_ | refine S47 ?_ | refine S48 ?_ | refine S51 ?_ | refine S66 ?_ | refine S68 ?_ | refine S78 ?_)
    exact hQ _ SLx HBx (HP.setS_same _ _ _) ((HP.setS_other _ _ (fun e => ht12 e.symm)).trans hSi) (by first | omega | (simp only [HP.tokF, HP.tokT, HP.next_add, HP.next_set, HP.next_kill, HP.next_H0, HP.next_addS, HP.next_setS, HP.next_killS, HP.next_put, HP.next_bump, HP.next_putS]; omega)) (by first | omega | (simp only [HP.tokF, HP.tokT, HP.next_add, HP.next_set, HP.next_kill, HP.next_H0, HP.next_addS, HP.next_setS, HP.next_killS, HP.next_put, HP.next_bump, HP.next_putS]; omega))
  · rw [if_neg hin] at hlo
    have hc0 : col Lz E1 = 0 := col_none fun e he h => hin (h ▸ hJa.all e he)
    rw [hc0, poW0] at kpl
    have kpl3 := plus_zero kpl
    rw [hc0] at hup
    refine AW.glkm (kk := .arr 12) (tk := t2) (key := pk E1) (p := .agg [pint 0, .lst true 0 0 []]) EVx EVx hok rfl rfl hS2 (by rw [lkG_f]; exact hlo) ?_
    repeat (first | refine S0 ?_ | refine S1 ?_ | refine S2 ?_ | refine S3 ?_ | refine S4 ?_ | refine S5 ?_ | refine S8 ?_ | refine S11 ?_ | refine S15 ?_ | refine S19 ?_ | refine S20 ?_ | refine S21 ?_ | refine S22 ?_ | refine S25 ?_ | refine S26 ?_ | refine S28 ?_ | refine S30 ?_ | refine S34 ?_ | refine S47 ?_ | refine S48 ?_ | refine S51 ?_ | refine S66 ?_ | refine S68 ?_ | refine S78 ?_)
    refine Scall (args := [ppo (poW (Cv)), ppo (poW (LP.mono 1 (chW x true) * dpow c1))]) ktm2 ?_
    repeat (first | refine S0 ?_ | refine S1 ?_ | refine S2 ?_ | refine S3 ?_ | refine S4 ?_ | refine S5 ?_ | refine S8 ?_ | refine S11 ?_ | refine S15 ?_ | refine S19 ?_ | refine S20 ?_ | refine S21 ?_ | refine S22 ?_ | refine S25 ?_ | refine S26 ?_ | refine S28 ?_ | refine S30 ?_ | refine S34 ?_ | refine S47 ?_ | refine S48 ?_ | refine S51 ?_ | refine S66 ?_ | refine S68 ?_ | refine S78 ?_)
    refine Scall (args := [.agg [pint 0, .lst true 0 0 []], ppo (poW (Cv * (LP.mono 1 (chW x true) * dpow c1))), pint 1]) kpl3 ?_
    refine AW.gup (kk := .arr 12) (tk := t2) (key := pk E1) EVx EVx EVx hok rfl rfl hS2 ?_
    rw [hup.1, hup.2]
    repeat (first | refine S0 ?_ | refine S1 ?_ | refine S2 ?_ | refine S3 ?_ | refine S4 ?_ | refine S5 ?_ | refine S8 ?_ | refine S11 ?_ | refine S15 ?_ | refine S19 ?_ | refine S20 ?_ | refine S21 ?_ | refine S22 ?_ | refine S25 ?_ | refine S26 ?_ | refine S28 ?_ | refine S30 ?_ | refine S34 ?_ | refine S47 ?_ | refine S48 ?_ | refine S51 ?_ | refine S66 ?_ | refine S68 ?_ | refine S78 ?_)
    exact hQ _ SLx HBx (HP.setS_same _ _ _) ((HP.setS_other _ _ (fun e => ht12 e.symm)).trans hSi) (by first | omega | (simp only [HP.tokF, HP.tokT, HP.next_add, HP.next_set, HP.next_kill, HP.next_H0, HP.next_addS, HP.next_setS, HP.next_killS, HP.next_put, HP.next_bump, HP.next_putS]; omega)) (by first | omega | (simp only [HP.tokF, HP.tokT, HP.next_add, HP.next_set, HP.next_kill, HP.next_H0, HP.next_addS, HP.next_setS, HP.next_killS, HP.next_put, HP.next_bump, HP.next_putS]; omega))
set_option maxHeartbeats 32000000 in
set_option maxRecDepth 100000 in
theorem brk_tn {n j : Nat} {w : List Int} {x : Int} (hn : 1 ≤ n ∧ n ≤ 6) (hlx : x.natAbs ≠ 0 ∧ x.natAbs < n) (h0 : ¬ 0 < x) {D : List Int} (hDv : Vd n D) {Cv : LP} (hcs : Sup ((500 : Nat) : Int) Cv) {Lz : List StE} (hLs : supS 1000 Lz) {Da : List (List Int)} (hJa : JM n Da Lz) {t2 ti : Nat} (ht12 : t2 ≠ ti) (h1n : 1 < t2) {X : SpC} {c : Code} (hc : findL 10 (Try.f24.body.getD .skip) = some c) {Q : Exit → AS → Prop} {t : Nat → PV} {hp : HP} (hB1 : hp.blk 1 = some [pint 0, .lst true 0 0 []]) (hS2 : hp.sp t2 = some (.gmap (.arr 12) (Da.map pk) (Da.map (jV Lz)))) (hSi : hp.sp ti = some X) (hl2 : t2 < 2 * hp.next) (hli : ti < 2 * hp.next)
    (hQ : ∀ s : AS, allS [(0, pint n), (4, .ptr 1 0), (7, pint x), (8, .mref t2), (34, .itr ti), (26, pli w), (27, pint w.length), (28, pint j), (9, .lptr (ints (pk D))), (10, .lptr [pint (poW Cv).1, pli (poW Cv).2]), (46, .lst true 1 2 [pli (tabN (2 * n) (oneM n)), pli (tabN (2 * n) (cupM n (x.natAbs - 1)))]), (47, pint 2), (48, pint (2 : Nat))] s.tmps → s.hp.blk 1 = some [pint 0, .lst true 0 0 []] → s.hp.sp t2 = some (.gmap (.arr 12) ((insD Da (chS n x (D, Cv) true).1).map pk) ((insD Da (chS n x (D, Cv) true).1).map (jV (Lz ++ [chS n x (D, Cv) true])))) → s.hp.sp ti = some X → t2 < 2 * s.hp.next → ti < 2 * s.hp.next → Q .normal s) :
    CW Try.prog TT {} Try.f24.ntmps c ⟨updS [(0, pint n), (4, .ptr 1 0), (7, pint x), (8, .mref t2), (34, .itr ti), (26, pli w), (27, pint w.length), (28, pint j), (9, .lptr (ints (pk D))), (10, .lptr [pint (poW Cv).1, pli (poW Cv).2]), (46, .lst true 1 2 [pli (tabN (2 * n) (oneM n)), pli (tabN (2 * n) (cupM n (x.natAbs - 1)))]), (47, pint 2), (48, pint (1 : Nat))] t, hp⟩ Q := by
  have hc0 : findL 10 (Try.f24.body.getD .skip) = some _ := rfl
  obtain rfl := Option.some.inj (hc0.symm.trans hc)
  clear hc hc0
  have hDl := hDv.len
  have hil : (ints (pk D)).length = 12 := by rw [ints_length, pk_len (by omega)]
  have hM := chM_mt hlx true
  have kP := putD_s hn hDv hM
  have hpo := putD_ok hDv hM
  have hW := chW_cases x true
  have ksh := wt_sup x true (putD n D (chM n x true)).2
  have kpw := power_s (putD n D (chM n x true)).2 (by have := hpo.2; omega)
  have hEv : Vd n (chS n x (D, Cv) true).1 := hpo.1
  have kky := jkey_s (D := (putD n D (chM n x true)).1) (by rw [hpo.1.len]; omega)
  have hok : KT.ok (.arr 12) (pk (putD n D (chM n x true)).1) := pk_len (by rw [hpo.1.len]; omega)
  have hup := hJa.upd hEv
  have hlo := hJa.look hEv
  have hdp := dpow_sup (putD n D (chM n x true)).2
  have hEs : Sup 30000 (chS n x (D, Cv) true).2 := (nx_sup (e := (D, Cv)) hn.2 hlx hDv hcs true).mono (by omega)
  have hEd : chS n x (D, Cv) true = ((putD n D (chM n x true)).1, Cv * (LP.mono 1 (chW x true) * dpow (putD n D (chM n x true)).2)) := rfl
  rw [hEd] at hup hlo hEs hQ
  simp only at hup hlo hEs hQ
  have hcol := col_sup (putD n D (chM n x true)).1 hLs
  have ktm := timesW_s (LP.mono 1 (chW x true)) (dpow (putD n D (chM n x true)).2) ((Sup.monom 1 (chW x true) (by rcases hW with h | h <;> rw [h] <;> omega) : Sup 1 _).mono (by omega)) (hdp.mono (by have := hpo.2; omega))
  have ktm2 := timesW_s Cv (LP.mono 1 (chW x true) * dpow (putD n D (chM n x true)).2) (hcs.mono (by omega)) (ksh.mono (by have := hpo.2; omega))
  have kpl := plusW_s (col Lz (putD n D (chM n x true)).1) (Cv * (LP.mono 1 (chW x true) * dpow (putD n D (chM n x true)).2)) 1 (hcol.mono (by omega)) hEs
  have kte := termW_s 1 (chW x true) (by unfold in64; omega) (by rcases hW with h | h <;> rw [h] <;> omega)
  rw [show tabN (2 * n) (chM n x true) = tabN (2 * n) (cupM n (x.natAbs - 1)) from rfl] at kP
  have hx0 : x ≠ 0 := fun e => hlx.1 (by rw [e]; rfl)
  have hsl : (ints (pk D)).take (2 * (n : Int)).toNat = ints D := by
    rw [show (2 * (n : Int)).toNat = D.length by omega]
    unfold pk ints
    rw [List.map_append, List.take_append_of_le_length (by simp), List.take_of_length_le (by simp)]
  generalize (putD n D (chM n x true)).1 = E1 at *
  generalize (putD n D (chM n x true)).2 = c1 at *
  have eW : chW x true = 1 := by unfold chW; simp [h0]
  rw [show ([pint 1, pint (chW x true)] : List PV) = [pint 1, pint (1)] by rw [eW]] at kte
  first | simp only [updS] | simp only [updL, Nat.reduceAdd]
  repeat (first | refine S0 ?_ | refine S1 ?_ | refine S2 ?_ | refine S3 ?_ | refine S4 ?_ | refine S5 ?_ | refine S8 ?_ | refine S11 ?_ | refine S15 ?_ | refine S16 ?_ | refine S19 ?_ | refine S20 ?_ | refine S21 ?_ | refine S22 ?_ | refine S25 ?_ | refine S26 ?_ | refine S28 ?_ | refine S30 ?_ | refine S34 ?_ | refine S47 ?_ | refine S48 ?_ | refine S51 ?_ | refine S66 ?_ | refine S68 ?_ | refine S78 ?_)
  rw [show (!(decide (((1 : Nat) : Int) = 0) == decide (0 < x))) = false by simp [h0]]
  repeat (first | refine S0 ?_ | refine S1 ?_ | refine S2 ?_ | refine S3 ?_ | refine S4 ?_ | refine S5 ?_ | refine S8 ?_ | refine S11 ?_ | refine S15 ?_ | refine S16 ?_ | refine S19 ?_ | refine S20 ?_ | refine S21 ?_ | refine S22 ?_ | refine S25 ?_ | refine S26 ?_ | refine S28 ?_ | refine S30 ?_ | refine S34 ?_ | refine S47 ?_ | refine S48 ?_ | refine S51 ?_ | refine S66 ?_ | refine S68 ?_ | refine S78 ?_)
  refine AW.slp EVx rfl EVx hil (by omega) ?_
  rw [hsl, show (2 * (n : Int)).toNat = D.length by omega]
  repeat (first | refine S0 ?_ | refine S1 ?_ | refine S2 ?_ | refine S3 ?_ | refine S4 ?_ | refine S5 ?_ | refine S8 ?_ | refine S11 ?_ | refine S15 ?_ | refine S16 ?_ | refine S19 ?_ | refine S20 ?_ | refine S21 ?_ | refine S22 ?_ | refine S25 ?_ | refine S26 ?_ | refine S28 ?_ | refine S30 ?_ | refine S34 ?_ | refine S47 ?_ | refine S48 ?_ | refine S51 ?_ | refine S66 ?_ | refine S68 ?_ | refine S78 ?_)
  refine Scall (args := [pint n, pli D, pli (tabN (2 * n) (cupM n (x.natAbs - 1)))]) kP ?_
  repeat (first | refine S0 ?_ | refine S1 ?_ | refine S2 ?_ | refine S3 ?_ | refine S4 ?_ | refine S5 ?_ | refine S8 ?_ | refine S11 ?_ | refine S15 ?_ | refine S16 ?_ | refine S19 ?_ | refine S20 ?_ | refine S21 ?_ | refine S22 ?_ | refine S25 ?_ | refine S26 ?_ | refine S28 ?_ | refine S30 ?_ | refine S34 ?_ | refine S47 ?_ | refine S48 ?_ | refine S51 ?_ | refine S66 ?_ | refine S68 ?_ | refine S78 ?_)
  refine Scall (args := [pint 1, pint (1)]) kte ?_
  repeat (first | refine S0 ?_ | refine S1 ?_ | refine S2 ?_ | refine S3 ?_ | refine S4 ?_ | refine S5 ?_ | refine S8 ?_ | refine S11 ?_ | refine S15 ?_ | refine S16 ?_ | refine S19 ?_ | refine S20 ?_ | refine S21 ?_ | refine S22 ?_ | refine S25 ?_ | refine S26 ?_ | refine S28 ?_ | refine S30 ?_ | refine S34 ?_ | refine S47 ?_ | refine S48 ?_ | refine S51 ?_ | refine S66 ?_ | refine S68 ?_ | refine S78 ?_)
  refine Scall (args := [pint c1]) kpw ?_
  repeat (first | refine S0 ?_ | refine S1 ?_ | refine S2 ?_ | refine S3 ?_ | refine S4 ?_ | refine S5 ?_ | refine S8 ?_ | refine S11 ?_ | refine S15 ?_ | refine S16 ?_ | refine S19 ?_ | refine S20 ?_ | refine S21 ?_ | refine S22 ?_ | refine S25 ?_ | refine S26 ?_ | refine S28 ?_ | refine S30 ?_ | refine S34 ?_ | refine S47 ?_ | refine S48 ?_ | refine S51 ?_ | refine S66 ?_ | refine S68 ?_ | refine S78 ?_)
  refine Scall (args := [ppo (poW (LP.mono 1 (chW x true))), ppo (poW (dpow c1))]) ktm ?_
  repeat (first | refine S0 ?_ | refine S1 ?_ | refine S2 ?_ | refine S3 ?_ | refine S4 ?_ | refine S5 ?_ | refine S8 ?_ | refine S11 ?_ | refine S15 ?_ | refine S16 ?_ | refine S19 ?_ | refine S20 ?_ | refine S21 ?_ | refine S22 ?_ | refine S25 ?_ | refine S26 ?_ | refine S28 ?_ | refine S30 ?_ | refine S34 ?_ | refine S47 ?_ | refine S48 ?_ | refine S51 ?_ | refine S66 ?_ | refine S68 ?_ | refine S78 ?_)
  refine Scall (args := [pli E1]) kky ?_
  repeat (first | refine S0 ?_ | refine S1 ?_ | refine S2 ?_ | refine S3 ?_ | refine S4 ?_ | refine S5 ?_ | refine S8 ?_ | refine S11 ?_ | refine S15 ?_ | refine S16 ?_ | refine S19 ?_ | refine S20 ?_ | refine S21 ?_ | refine S22 ?_ | refine S25 ?_ | refine S26 ?_ | refine S28 ?_ | refine S30 ?_ | refine S34 ?_ | refine S47 ?_ | refine S48 ?_ | refine S51 ?_ | refine S66 ?_ | refine S68 ?_ | refine S78 ?_)
  refine Scall (args := [pli E1]) kky ?_
  repeat (first | refine S0 ?_ | refine S1 ?_ | refine S2 ?_ | refine S3 ?_ | refine S4 ?_ | refine S5 ?_ | refine S8 ?_ | refine S11 ?_ | refine S15 ?_ | refine S16 ?_ | refine S19 ?_ | refine S20 ?_ | refine S21 ?_ | refine S22 ?_ | refine S25 ?_ | refine S26 ?_ | refine S28 ?_ | refine S30 ?_ | refine S34 ?_ | refine S47 ?_ | refine S48 ?_ | refine S51 ?_ | refine S66 ?_ | refine S68 ?_ | refine S78 ?_)
  by_cases hin : E1 ∈ Da
  · rw [if_pos hin] at hlo
    refine AW.glkm (kk := .arr 12) (tk := t2) (key := pk E1) (p := ppo (poW (col Lz E1))) EVx EVx hok rfl rfl hS2 (by rw [lkG_f]; exact hlo) ?_
    repeat (first | refine S0 ?_ | refine S1 ?_ | refine S2 ?_ | refine S3 ?_ | refine S4 ?_ | refine S5 ?_ | refine S8 ?_ | refine S11 ?_ | refine S15 ?_ | refine S16 ?_ | refine S19 ?_ | refine S20 ?_ | refine S21 ?_ | refine S22 ?_ | refine S25 ?_ | refine S26 ?_ | refine S28 ?_ | refine S30 ?_ | refine S34 ?_ | refine S47 ?_ | refine S48 ?_ | refine S51 ?_ | refine S66 ?_ | refine S68 ?_ | refine S78 ?_)
    refine Scall (args := [ppo (poW (Cv)), ppo (poW (LP.mono 1 (chW x true) * dpow c1))]) ktm2 ?_
    repeat (first | refine S0 ?_ | refine S1 ?_ | refine S2 ?_ | refine S3 ?_ | refine S4 ?_ | refine S5 ?_ | refine S8 ?_ | refine S11 ?_ | refine S15 ?_ | refine S16 ?_ | refine S19 ?_ | refine S20 ?_ | refine S21 ?_ | refine S22 ?_ | refine S25 ?_ | refine S26 ?_ | refine S28 ?_ | refine S30 ?_ | refine S34 ?_ | refine S47 ?_ | refine S48 ?_ | refine S51 ?_ | refine S66 ?_ | refine S68 ?_ | refine S78 ?_)
    refine Scall (args := [ppo (poW (col Lz E1)), ppo (poW (Cv * (LP.mono 1 (chW x true) * dpow c1))), pint 1]) kpl ?_
    refine AW.gup (kk := .arr 12) (tk := t2) (key := pk E1) EVx EVx EVx hok rfl rfl hS2 ?_
    rw [hup.1, hup.2]
    repeat (first | refine S0 ?_ | refine S1 ?_ | refine S2 ?_ | refine S3 ?_ | refine S4 ?_ | refine S5 ?_ | refine S8 ?_ | refine S11 ?_ | refine S15 ?_ | refine S16 ?_ | refine S19 ?_ | refine S20 ?_ | refine S21 ?_ | refine S22 ?_ | refine S25 ?_ | refine S26 ?_ | refine S28 ?_ | refine S30 ?_ | refine S34 ?_ | refine S47 ?_ | refine S48 ?_ | refine S51 ?_ | refine S66 ?_ | refine S68 ?_ | refine S78 ?_)
    exact hQ _ SLx HBx (HP.setS_same _ _ _) ((HP.setS_other _ _ (fun e => ht12 e.symm)).trans hSi) (by first | omega | (simp only [HP.tokF, HP.tokT, HP.next_add, HP.next_set, HP.next_kill, HP.next_H0, HP.next_addS, HP.next_setS, HP.next_killS, HP.next_put, HP.next_bump, HP.next_putS]; omega)) (by first | omega | (simp only [HP.tokF, HP.tokT, HP.next_add, HP.next_set, HP.next_kill, HP.next_H0, HP.next_addS, HP.next_setS, HP.next_killS, HP.next_put, HP.next_bump, HP.next_putS]; omega))
  · rw [if_neg hin] at hlo
    have hc0 : col Lz E1 = 0 := col_none fun e he h => hin (h ▸ hJa.all e he)
    rw [hc0, poW0] at kpl
    have kpl3 := plus_zero kpl
    rw [hc0] at hup
    refine AW.glkm (kk := .arr 12) (tk := t2) (key := pk E1) (p := .agg [pint 0, .lst true 0 0 []]) EVx EVx hok rfl rfl hS2 (by rw [lkG_f]; exact hlo) ?_
    repeat (first | refine S0 ?_ | refine S1 ?_ | refine S2 ?_ | refine S3 ?_ | refine S4 ?_ | refine S5 ?_ | refine S8 ?_ | refine S11 ?_ | refine S15 ?_ | refine S16 ?_ | refine S19 ?_ | refine S20 ?_ | refine S21 ?_ | refine S22 ?_ | refine S25 ?_ | refine S26 ?_ | refine S28 ?_ | refine S30 ?_ | refine S34 ?_ | refine S47 ?_ | refine S48 ?_ | refine S51 ?_ | refine S66 ?_ | refine S68 ?_ | refine S78 ?_)
    refine Scall (args := [ppo (poW (Cv)), ppo (poW (LP.mono 1 (chW x true) * dpow c1))]) ktm2 ?_
    repeat (first | refine S0 ?_ | refine S1 ?_ | refine S2 ?_ | refine S3 ?_ | refine S4 ?_ | refine S5 ?_ | refine S8 ?_ | refine S11 ?_ | refine S15 ?_ | refine S16 ?_ | refine S19 ?_ | refine S20 ?_ | refine S21 ?_ | refine S22 ?_ | refine S25 ?_ | refine S26 ?_ | refine S28 ?_ | refine S30 ?_ | refine S34 ?_ | refine S47 ?_ | refine S48 ?_ | refine S51 ?_ | refine S66 ?_ | refine S68 ?_ | refine S78 ?_)
    refine Scall (args := [.agg [pint 0, .lst true 0 0 []], ppo (poW (Cv * (LP.mono 1 (chW x true) * dpow c1))), pint 1]) kpl3 ?_
    refine AW.gup (kk := .arr 12) (tk := t2) (key := pk E1) EVx EVx EVx hok rfl rfl hS2 ?_
    rw [hup.1, hup.2]
    repeat (first | refine S0 ?_ | refine S1 ?_ | refine S2 ?_ | refine S3 ?_ | refine S4 ?_ | refine S5 ?_ | refine S8 ?_ | refine S11 ?_ | refine S15 ?_ | refine S16 ?_ | refine S19 ?_ | refine S20 ?_ | refine S21 ?_ | refine S22 ?_ | refine S25 ?_ | refine S26 ?_ | refine S28 ?_ | refine S30 ?_ | refine S34 ?_ | refine S47 ?_ | refine S48 ?_ | refine S51 ?_ | refine S66 ?_ | refine S68 ?_ | refine S78 ?_)
    exact hQ _ SLx HBx (HP.setS_same _ _ _) ((HP.setS_other _ _ (fun e => ht12 e.symm)).trans hSi) (by first | omega | (simp only [HP.tokF, HP.tokT, HP.next_add, HP.next_set, HP.next_kill, HP.next_H0, HP.next_addS, HP.next_setS, HP.next_killS, HP.next_put, HP.next_bump, HP.next_putS]; omega)) (by first | omega | (simp only [HP.tokF, HP.tokT, HP.next_add, HP.next_set, HP.next_kill, HP.next_H0, HP.next_addS, HP.next_setS, HP.next_killS, HP.next_put, HP.next_bump, HP.next_putS]; omega))
end Go.Proofs.Ytdlpbpfcgjgppaa
