/- polymatrix.Det, the law PolyDets. No condition of its own. -/
import Derived.Test.YtehilackpaejnaaGPolyDetsBI
import Derived.Test.YtehilackpaejnaaGPolyDetsBX
import Derived.Test.YtehilackpaejnaaGPolyDetsBH
set_option linter.unusedVariables false
set_option linter.unusedSimpArgs false
namespace Go.Proofs.Ytehilackpaejnaa
open Go.RowKit

theorem fit_cl (p : Po) : (fitP p).cl = true := by
  unfold fitP
  split <;> simp only [PV.cl, PV.cl.clL, ppo_cl, pint_cl, Bool.and_self]
/-- the matrix of the ring that a matrix of polynomials is -/
def mM (m : List (List Po)) (r c : Nat) : LP := lpo ((m.getD r []).getD c (0, []))
theorem elF_ok {p : Po} (h : elF p = 0) : pF p = 0 ∧ p.2.length ≤ 20 ∧ (-20 ≤ p.1 ∧ p.1 ≤ 20) := by
  unfold elF at h
  split at h
  · contradiction
  · rename_i h0
    split at h
    · cases h
    · rename_i h1
      exact ⟨Classical.byContradiction h0, by omega, by omega⟩
structure Sq (m : List (List Po)) : Prop where
  hn : m.length ≤ 4
  row : ∀ i, i < m.length → (m.getD i []).length = m.length
  el : ∀ i j, i < m.length → j < m.length → elF ((m.getD i []).getD j (0, [])) = 0
theorem sqF_ok {m : List (List Po)} (h : sqF m = 0) : Sq m := by
  unfold sqF at h
  split at h
  · cases h
  rename_i h4
  have hr := fstE_ok h
  have hg : ∀ i, i < m.length → rowE m.length (m.getD i []) = 0 := fun i hi => hr _ (by rw [getD_lt [] hi]; exact List.getElem_mem hi)
  have hlen : ∀ i, i < m.length → (m.getD i []).length = m.length ∧ fstE elF (m.getD i []) = 0 := fun i hi => by
    have := hg i hi
    unfold rowE at this
    split at this
    · cases this
    · rename_i hh; exact ⟨Classical.byContradiction hh, this⟩
  exact ⟨by omega, fun i hi => (hlen i hi).1, fun i j hi hj => fstE_ok (hlen i hi).2 _ (by rw [getD_lt _ (show j < (m.getD i []).length by rw [(hlen i hi).1]; exact hj)]; exact List.getElem_mem _)⟩
theorem mM_sup {m : List (List Po)} (h : Sq m) (r c : Nat) : Sup ((40 : Nat) : Int) (mM m r c) := by
  unfold mM
  by_cases hr : r < m.length
  · by_cases hc : c < m.length
    · obtain ⟨_, h1, h2⟩ := elF_ok (h.el r c hr hc)
      exact lpo_sup (by omega)
    · rw [show (m.getD r []).getD c (0, []) = (0, []) by rw [List.getD_eq_getElem?_getD (l := m.getD r []), List.getElem?_eq_none (by rw [h.row r hr]; omega)]; rfl]
      exact lpo_sup (by simp)
  · rw [show m.getD r [] = [] by rw [List.getD_eq_getElem?_getD, List.getElem?_eq_none (by omega)]; rfl]
    exact lpo_sup (by simp)
theorem mM_mat {m : List (List Po)} (h : Sq m) : mat (mM m) (List.range m.length) (List.range m.length) = m := by
  unfold mat
  apply List.ext_getElem (by simp)
  intro i h1 h2
  rw [List.getElem_map, List.getElem_range]
  have hr := h.row i h2
  rw [getD_lt [] h2] at hr
  apply List.ext_getElem (by simp [hr])
  intro j h3 h4
  rw [List.getElem_map, List.getElem_range]
  have he := h.el i j h2 (by omega)
  unfold mM
  rw [getD_lt [] h2, getD_lt _ h4] at he ⊢
  obtain ⟨h5, _, _⟩ := elF_ok he
  obtain ⟨_, _, h6, h7⟩ := pF_ok h5
  exact poW_lpo h6 (fun x hx => by have := h7 x hx; unfold okc at this; unfold in64; omega)
/-- the determinant -/
noncomputable def dP (m : List (List Po)) : Po := poW (lapP (mM m) (List.range m.length) (List.range m.length))
/-- what Det returns -/
noncomputable def detP (m : List (List Po)) : Po := if sqF m = 0 then if pF (dP m) = 0 then dP m else (0, []) else (0, [])
noncomputable def detE (m : List (List Po)) : Int := if sqF m = 0 then if pF (dP m) = 0 then 0 else 2 else sqF m
set_option maxHeartbeats 4000000 in
set_option maxRecDepth 100000 in
theorem pdet_s (m : List (List Po)) : SC Try.prog 34 [ppss m] (.tup [ppo (detP m), pint (detE m)]) := by
  have kx : sqF m = 0 → SC Try.prog 53 [ppss m] (ppo (dP m)) := fun h0 => by
    have hs := sqF_ok h0
    have := expand_s (mM_sup hs) (by omega) (List.range m.length) (List.range m.length) rfl (by simp; have := hs.hn; omega)
    rwa [mM_mat hs] at this
  have kf := fit_s (dP m)
  unfold fitP at kf
  refine SC.go {} tok mixed Try.func34 rfl rfl Try.ntmps34 rfl rfl (by kernel_rfl) ?_
  first | simp only [updS] | simp only [updL, Nat.reduceAdd]
  repeat (first | refine S0 ?_ | refine S1 ?_ | refine S2 ?_ | refine S3 ?_ | refine S4 ?_ | refine S5 ?_ | refine S6 ?_ | refine S7 ?_ | refine S8 ?_ | refine S9 ?_ | refine S10 ?_ | refine S11 ?_ | refine S12 ?_ | refine S13 ?_ | refine S14 ?_ | refine S15 ?_ | refine S16 ?_ | refine S17 ?_ ?_ | refine S18 ?_ | refine S19 ?_ | refine S20 ?_ | refine S21 ?_ | refine S22 ?_ | refine S23 ?_ | refine S24 ?_ | refine S25 ?_ | refine S26 ?_ | refine S27 ?_ | refine S28 ?_ | refine S29 ?_ | refine S30 ?_ | refine S31 ?_ | refine S32 ?_ | refine S33 ?_ | refine S34 ?_ | refine S35 ?_ | refine S36 ?_ | refine S37 ?_ | refine S38 ?_ | refine S39 ?_ | refine S40 ?_ | refine S41 ?_ | refine S42 ?_ | refine S43 ?_ | refine S44 ?_ | refine S45 ?_ | refine S46 ?_ | refine S47 ?_ | refine S48 ?_ | refine S49 ?_ | refine S50 ?_ | refine S51 ?_ | refine S52 ?_ | refine S53 ?_ | refine S54 ?_ | refine S55 ?_ | refine S56 ?_ | refine S57 ?_ | refine S58 ?_ | refine S59 ?_ | refine S60 ?_ | refine S61 ?_ | refine S62 ?_ | refine S63 ?_ | refine S64 ?_ | refine S65 ?_ | refine S66 ?_ | refine S67 ?_ | refine S68 ?_ | refine S69 ?_ | refine S70 ?_ | refine S71 ?_ | refine S72 ?_ | refine S73 ?_ | refine S74 ?_ | refine S75 ?_ | refine S76 ?_ | refine S77 ?_ | refine S78 ?_ | refine S79 ?_ | refine S80 ?_ | refine S81 ?_ | refine S82 ?_ | refine S83 ?_ | refine S84 ?_ | refine S85 ?_ | refine S86 ?_ | refine S87 ?_)
  refine Scall (args := [ppss m]) (hc := by simp only [PV.cl.clL, ppss_cl, Bool.and_self]) (sqcheck_s m) ?_
  unfold detP detE
  by_cases h0 : sqF m = 0
  · rw [if_pos h0, if_pos h0, h0]
    repeat (first | refine S0 ?_ | refine S1 ?_ | refine S2 ?_ | refine S3 ?_ | refine S4 ?_ | refine S5 ?_ | refine S6 ?_ | refine S7 ?_ | refine S8 ?_ | refine S9 ?_ | refine S10 ?_ | refine S11 ?_ | refine S12 ?_ | refine S13 ?_ | refine S14 ?_ | refine S15 ?_ | refine S16 ?_ | refine S17 ?_ ?_ | refine S18 ?_ | refine S19 ?_ | refine S20 ?_ | refine S21 ?_ | refine S22 ?_ | refine S23 ?_ | refine S24 ?_ | refine S25 ?_ | refine S26 ?_ | refine S27 ?_ | refine S28 ?_ | refine S29 ?_ | refine S30 ?_ | refine S31 ?_ | refine S32 ?_ | refine S33 ?_ | refine S34 ?_ | refine S35 ?_ | refine S36 ?_ | refine S37 ?_ | refine S38 ?_ | refine S39 ?_ | refine S40 ?_ | refine S41 ?_ | refine S42 ?_ | refine S43 ?_ | refine S44 ?_ | refine S45 ?_ | refine S46 ?_ | refine S47 ?_ | refine S48 ?_ | refine S49 ?_ | refine S50 ?_ | refine S51 ?_ | refine S52 ?_ | refine S53 ?_ | refine S54 ?_ | refine S55 ?_ | refine S56 ?_ | refine S57 ?_ | refine S58 ?_ | refine S59 ?_ | refine S60 ?_ | refine S61 ?_ | refine S62 ?_ | refine S63 ?_ | refine S64 ?_ | refine S65 ?_ | refine S66 ?_ | refine S67 ?_ | refine S68 ?_ | refine S69 ?_ | refine S70 ?_ | refine S71 ?_ | refine S72 ?_ | refine S73 ?_ | refine S74 ?_ | refine S75 ?_ | refine S76 ?_ | refine S77 ?_ | refine S78 ?_ | refine S79 ?_ | refine S80 ?_ | refine S81 ?_ | refine S82 ?_ | refine S83 ?_ | refine S84 ?_ | refine S85 ?_ | refine S86 ?_ | refine S87 ?_)
    refine Scall (args := [ppss m]) (hc := by simp only [PV.cl.clL, ppss_cl, Bool.and_self]) (kx h0) ?_
    refine Scall (args := [ppo (dP m)]) kf ?_
    repeat (first | refine S0 ?_ | refine S1 ?_ | refine S2 ?_ | refine S3 ?_ | refine S4 ?_ | refine S5 ?_ | refine S6 ?_ | refine S7 ?_ | refine S8 ?_ | refine S9 ?_ | refine S10 ?_ | refine S11 ?_ | refine S12 ?_ | refine S13 ?_ | refine S14 ?_ | refine S15 ?_ | refine S16 ?_ | refine S17 ?_ ?_ | refine S18 ?_ | refine S19 ?_ | refine S20 ?_ | refine S21 ?_ | refine S22 ?_ | refine S23 ?_ | refine S24 ?_ | refine S25 ?_ | refine S26 ?_ | refine S27 ?_ | refine S28 ?_ | refine S29 ?_ | refine S30 ?_ | refine S31 ?_ | refine S32 ?_ | refine S33 ?_ | refine S34 ?_ | refine S35 ?_ | refine S36 ?_ | refine S37 ?_ | refine S38 ?_ | refine S39 ?_ | refine S40 ?_ | refine S41 ?_ | refine S42 ?_ | refine S43 ?_ | refine S44 ?_ | refine S45 ?_ | refine S46 ?_ | refine S47 ?_ | refine S48 ?_ | refine S49 ?_ | refine S50 ?_ | refine S51 ?_ | refine S52 ?_ | refine S53 ?_ | refine S54 ?_ | refine S55 ?_ | refine S56 ?_ | refine S57 ?_ | refine S58 ?_ | refine S59 ?_ | refine S60 ?_ | refine S61 ?_ | refine S62 ?_ | refine S63 ?_ | refine S64 ?_ | refine S65 ?_ | refine S66 ?_ | refine S67 ?_ | refine S68 ?_ | refine S69 ?_ | refine S70 ?_ | refine S71 ?_ | refine S72 ?_ | refine S73 ?_ | refine S74 ?_ | refine S75 ?_ | refine S76 ?_ | refine S77 ?_ | refine S78 ?_ | refine S79 ?_ | refine S80 ?_ | refine S81 ?_ | refine S82 ?_ | refine S83 ?_ | refine S84 ?_ | refine S85 ?_ | refine S86 ?_ | refine S87 ?_)
    exact ⟨.inr rfl, FR.cellTmp rfl HBx rfl rfl rfl (Fz.pair (.cl (by simp only [PV.cl, PV.cl.clL, pint_cl, pli_cl, Bool.and_self])) (.cl rfl))⟩
  · rw [if_neg h0, if_neg h0]
    repeat (first | refine S0 ?_ | refine S1 ?_ | refine S2 ?_ | refine S3 ?_ | refine S4 ?_ | refine S5 ?_ | refine S6 ?_ | refine S7 ?_ | refine S8 ?_ | refine S9 ?_ | refine S10 ?_ | refine S11 ?_ | refine S12 ?_ | refine S13 ?_ | refine S14 ?_ | refine S15 ?_ | refine S16 ?_ | refine S17 ?_ ?_ | refine S18 ?_ | refine S19 ?_ | refine S20 ?_ | refine S21 ?_ | refine S22 ?_ | refine S23 ?_ | refine S24 ?_ | refine S25 ?_ | refine S26 ?_ | refine S27 ?_ | refine S28 ?_ | refine S29 ?_ | refine S30 ?_ | refine S31 ?_ | refine S32 ?_ | refine S33 ?_ | refine S34 ?_ | refine S35 ?_ | refine S36 ?_ | refine S37 ?_ | refine S38 ?_ | refine S39 ?_ | refine S40 ?_ | refine S41 ?_ | refine S42 ?_ | refine S43 ?_ | refine S44 ?_ | refine S45 ?_ | refine S46 ?_ | refine S47 ?_ | refine S48 ?_ | refine S49 ?_ | refine S50 ?_ | refine S51 ?_ | refine S52 ?_ | refine S53 ?_ | refine S54 ?_ | refine S55 ?_ | refine S56 ?_ | refine S57 ?_ | refine S58 ?_ | refine S59 ?_ | refine S60 ?_ | refine S61 ?_ | refine S62 ?_ | refine S63 ?_ | refine S64 ?_ | refine S65 ?_ | refine S66 ?_ | refine S67 ?_ | refine S68 ?_ | refine S69 ?_ | refine S70 ?_ | refine S71 ?_ | refine S72 ?_ | refine S73 ?_ | refine S74 ?_ | refine S75 ?_ | refine S76 ?_ | refine S77 ?_ | refine S78 ?_ | refine S79 ?_ | refine S80 ?_ | refine S81 ?_ | refine S82 ?_ | refine S83 ?_ | refine S84 ?_ | refine S85 ?_ | refine S86 ?_ | refine S87 ?_)
    exact ⟨.inr rfl, FR.cellTmp rfl HBx rfl rfl rfl (Fz.pair (.nrm rfl) (.cl rfl))⟩
/-! ### the reference's matrix of terms -/
def tmM (m : List (List Po)) : List (List Tm) := m.map fun r => r.map spl
theorem tmM_get {m : List (List Po)} {i j : Nat} (hi : i < m.length) (hj : j < (m.getD i []).length) : ((tmM m).getD i []).getD j tm0 = spl ((m.getD i []).getD j (0, [])) := by
  unfold tmM
  rw [getD_lt [] (by simpa using hi), List.getElem_map]
  rw [getD_lt [] hi] at hj ⊢
  rw [getD_lt _ (by simpa using hj), List.getElem_map, getD_lt _ hj]
theorem tmM_is {m : List (List Po)} (h : Sq m) : TMx (tmM m) m.length 40 (mM m) := by
  have hrow : ∀ i, i < m.length → ((tmM m).getD i []).length = m.length := fun i hi => by
    unfold tmM
    rw [getD_lt [] (by simpa using hi), List.getElem_map, List.length_map]
    have := h.row i hi
    rwa [getD_lt [] hi] at this
  refine ⟨by have := h.hn; omega, by omega, by simp [tmM], hrow, fun i j hi hj => ?_, mM_sup h⟩
  rw [tmM_get hi (by rw [h.row i hi]; exact hj)]
  obtain ⟨_, h1, h2⟩ := elF_ok (h.el i j hi hj)
  exact isT_spl (by omega)
theorem LP.smul_mono (k c i : Int) : LP.smul k (LP.mono c i) = LP.mono (k * c) i := LP.ext fun e => by
  rw [LP.smul_f, LP.mono_f, LP.mono_f]
  split <;> simp
theorem lpo_one (c e : Int) : lpo (e, [c]) = LP.mono c e := LP.ext fun x => by
  show co (e, [c]) x = _
  rw [LP.mono_f]
  by_cases h : x = e
  · subst h
    rw [if_pos rfl]
    simpa using co_at (x, [c]) 0
  · rw [if_neg h]
    by_cases h2 : x < e
    · rw [co_lo (by simpa using h2)]
    · rw [co_hi (by simp; omega)]
def mEx : List (List Po) := [[(1, [1]), (0, [1])], [(0, [1]), (1, [1])]]
theorem elF_one (e : Int) (h : -20 ≤ e ∧ e ≤ 20) : elF (e, [1]) = 0 := by
  have h1 : pF (e, [1]) = 0 := pF_all (by simp; omega) (.inr ⟨by simp, by simp, by simp⟩) (fun k hk => by
    have : k = 0 := by simp at hk; omega
    subst this
    exact (show okc 1 by unfold okc; omega))
  unfold elF
  rw [if_neg (fun hh => hh h1), if_neg (by simp; omega), if_pos]
  intro x hx
  simp at hx
  subst hx
  unfold okK; omega
theorem mEx_ok : sqF mEx = 0 := by
  have e0 := elF_one 0 (by omega)
  have e1 := elF_one 1 (by omega)
  have r0 : rowE 2 [(1, [1]), (0, [1])] = 0 := by
    unfold rowE
    rw [if_neg (by simp)]
    simp only [fstE, e0, e1, if_true]
  have r1 : rowE 2 [(0, [1]), (1, [1])] = 0 := by
    unfold rowE
    rw [if_neg (by simp)]
    simp only [fstE, e0, e1, if_true]
  unfold sqF
  rw [if_neg (by simp [mEx])]
  show fstE (rowE 2) [[(1, [1]), (0, [1])], [(0, [1]), (1, [1])]] = 0
  simp only [fstE, r0, r1, if_true]
theorem mEx_d : dP mEx = (0, [-1, 0, 1]) := by
  have e00 : mM mEx 0 0 = LP.mono 1 1 := lpo_one 1 1
  have e01 : mM mEx 0 1 = LP.mono 1 0 := lpo_one 1 0
  have e10 : mM mEx 1 0 = LP.mono 1 0 := lpo_one 1 0
  have e11 : mM mEx 1 1 = LP.mono 1 1 := lpo_one 1 1
  have hl : lapP (mM mEx) [0, 1] [0, 1] = LP.mono 1 2 + LP.mono (-1) 0 := by
    simp only [lapP, altsP, List.nil_append, List.cons_append, List.append_nil, e00, e01, e10, e11, LP.mul_one, LP.add_zero, show sgn 0 = 1 from rfl, show sgn (0 + 1) = -1 from rfl, LP.smul_one, LP.mono_mono, LP.smul_mono]
    rfl
  unfold dP
  rw [show List.range mEx.length = [0, 1] from rfl, hl]
  refine cano_eq (.inr ⟨by simp, by simp, by simp⟩) (fun e => ?_)
  rw [LP.add_f, LP.mono_f, LP.mono_f]
  by_cases h0 : e = 0
  · subst h0; rfl
  · by_cases h1 : e = 1
    · subst h1; rfl
    · by_cases h2 : e = 2
      · subst h2; rfl
      · rw [if_neg h2, if_neg h0]
        by_cases h3 : e < 0
        · rw [co_lo (by simpa using h3)]; rfl
        · rw [co_hi (by simp; omega)]; rfl
set_option maxHeartbeats 16000000 in
set_option maxRecDepth 100000 in
theorem polyDets_s (m : List (List Po)) : SC Try.prog 7 [ppss m] (.sc (.bool true)) := by
  have k1 := pdet_s m
  have k2 : SC Try.prog 34 [.lst true 1 2 [.lst true 2 2 [pint 1, plt [1], pint 0, plt [1]], .lst true 2 2 [pint 0, plt [1], pint 1, plt [1]]]] (.tup [ppo (0, [-1, 0, 1]), pint 0]) := by
    have h0 : pF (dP mEx) = 0 := by
      rw [mEx_d]
      exact pF_all (by simp) (.inr ⟨by simp, by simp, by simp⟩) (fun k hk => by
        have hk' : k < 3 := by simpa using hk
        match k, hk' with
        | 0, _ => exact (show okc (-1) by unfold okc; omega)
        | 1, _ => exact (show okc 0 by unfold okc; omega)
        | 2, _ => exact (show okc 1 by unfold okc; omega))
    have := pdet_s mEx
    unfold detP detE at this
    rw [if_pos mEx_ok, if_pos mEx_ok, if_pos h0, if_pos h0, mEx_d] at this
    refine this.wk rfl (fun i hi => ?_)
    match i, hi with
    | 0, _ => exact .lst rfl (fun j hj => by
        match j, hj with
        | 0, _ => exact .lst rfl (fun q hq => by
            match q, hq with
            | 0, _ => exact .refl _
            | 1, _ => exact .lst rfl (fun _ _ => .refl _)
            | 2, _ => exact .refl _
            | 3, _ => exact .lst rfl (fun _ _ => .refl _))
        | 1, _ => exact .lst rfl (fun q hq => by
            match q, hq with
            | 0, _ => exact .refl _
            | 1, _ => exact .lst rfl (fun _ _ => .refl _)
            | 2, _ => exact .refl _
            | 3, _ => exact .lst rfl (fun _ _ => .refl _)))
    | i + 1, h => simp at h
  have k3 := sqcheck_s m
  have k4 : SC Try.prog 20 [.agg [pint 0, pli [-1, 0, 1]], .agg [pint 0, .lst true 1 3 (ints [-1, 0, 1])]] (.sc (.bool true)) := SC.weak (same_s (0, [-1, 0, 1]) (0, [-1, 0, 1])) rfl
  have kz : SC Try.prog 20 [.agg [pint 0, pli []], .agg [pint 0, .lst true 0 0 []]] (.sc (.bool true)) := SC.weak (same_s (0, []) (0, [])) rfl
  refine SC.go {} tok mixed Try.func7 rfl rfl Try.ntmps7 rfl rfl (by kernel_rfl) ?_
  first | simp only [updS] | simp only [updL, Nat.reduceAdd]
  repeat (first | refine S0 ?_ | refine S1 ?_ | refine S2 ?_ | refine S3 ?_ | refine S4 ?_ | refine S5 ?_ | refine S6 ?_ | refine S7 ?_ | refine S8 ?_ | refine S9 ?_ | refine S10 ?_ | refine S11 ?_ | refine S12 ?_ | refine S13 ?_ | refine S14 ?_ | refine S15 ?_ | refine S16 ?_ | refine S17 ?_ ?_ | refine S18 ?_ | refine S19 ?_ | refine S20 ?_ | refine S21 ?_ | refine S22 ?_ | refine S23 ?_ | refine S24 ?_ | refine S25 ?_ | refine S26 ?_ | refine S27 ?_ | refine S28 ?_ | refine S29 ?_ | refine S30 ?_ | refine S31 ?_ | refine S32 ?_ | refine S33 ?_ | refine S34 ?_ | refine S35 ?_ | refine S36 ?_ | refine S37 ?_ | refine S38 ?_ | refine S39 ?_ | refine S40 ?_ | refine S41 ?_ | refine S42 ?_ | refine S43 ?_ | refine S44 ?_ | refine S45 ?_ | refine S46 ?_ | refine S47 ?_ | refine S48 ?_ | refine S49 ?_ | refine S50 ?_ | refine S51 ?_ | refine S52 ?_ | refine S53 ?_ | refine S54 ?_ | refine S55 ?_ | refine S56 ?_ | refine S57 ?_ | refine S58 ?_ | refine S59 ?_ | refine S60 ?_ | refine S61 ?_ | refine S62 ?_ | refine S63 ?_ | refine S64 ?_ | refine S65 ?_ | refine S66 ?_ | refine S67 ?_ | refine S68 ?_ | refine S69 ?_ | refine S70 ?_ | refine S71 ?_ | refine S72 ?_ | refine S73 ?_ | refine S74 ?_ | refine S75 ?_ | refine S76 ?_ | refine S77 ?_ | refine S78 ?_ | refine S79 ?_ | refine S80 ?_ | refine S81 ?_ | refine S82 ?_ | refine S83 ?_ | refine S84 ?_ | refine S85 ?_ | refine S86 ?_ | refine S87 ?_)
  obtain ⟨P1, hP1⟩ : ∃ P1, P1 = detP m := ⟨_, rfl⟩
  obtain ⟨e1, he1⟩ : ∃ e1, e1 = detE m := ⟨_, rfl⟩
  rw [← hP1, ← he1] at k1
  obtain ⟨l1, c1⟩ := P1
  refine Scall (args := [ppss m]) (hc := by simp only [PV.cl.clL, ppss_cl, Bool.and_self]) k1 ?_
  repeat (first | refine S0 ?_ | refine S1 ?_ | refine S2 ?_ | refine S3 ?_ | refine S4 ?_ | refine S5 ?_ | refine S6 ?_ | refine S7 ?_ | refine S8 ?_ | refine S9 ?_ | refine S10 ?_ | refine S11 ?_ | refine S12 ?_ | refine S13 ?_ | refine S14 ?_ | refine S15 ?_ | refine S16 ?_ | refine S17 ?_ ?_ | refine S18 ?_ | refine S19 ?_ | refine S20 ?_ | refine S21 ?_ | refine S22 ?_ | refine S23 ?_ | refine S24 ?_ | refine S25 ?_ | refine S26 ?_ | refine S27 ?_ | refine S28 ?_ | refine S29 ?_ | refine S30 ?_ | refine S31 ?_ | refine S32 ?_ | refine S33 ?_ | refine S34 ?_ | refine S35 ?_ | refine S36 ?_ | refine S37 ?_ | refine S38 ?_ | refine S39 ?_ | refine S40 ?_ | refine S41 ?_ | refine S42 ?_ | refine S43 ?_ | refine S44 ?_ | refine S45 ?_ | refine S46 ?_ | refine S47 ?_ | refine S48 ?_ | refine S49 ?_ | refine S50 ?_ | refine S51 ?_ | refine S52 ?_ | refine S53 ?_ | refine S54 ?_ | refine S55 ?_ | refine S56 ?_ | refine S57 ?_ | refine S58 ?_ | refine S59 ?_ | refine S60 ?_ | refine S61 ?_ | refine S62 ?_ | refine S63 ?_ | refine S64 ?_ | refine S65 ?_ | refine S66 ?_ | refine S67 ?_ | refine S68 ?_ | refine S69 ?_ | refine S70 ?_ | refine S71 ?_ | refine S72 ?_ | refine S73 ?_ | refine S74 ?_ | refine S75 ?_ | refine S76 ?_ | refine S77 ?_ | refine S78 ?_ | refine S79 ?_ | refine S80 ?_ | refine S81 ?_ | refine S82 ?_ | refine S83 ?_ | refine S84 ?_ | refine S85 ?_ | refine S86 ?_ | refine S87 ?_)
  refine Scall (args := [ppss m]) (hc := by simp only [PV.cl.clL, ppss_cl, Bool.and_self]) (sqfault_s m) ?_
  repeat (first | refine S0 ?_ | refine S1 ?_ | refine S2 ?_ | refine S3 ?_ | refine S4 ?_ | refine S5 ?_ | refine S6 ?_ | refine S7 ?_ | refine S8 ?_ | refine S9 ?_ | refine S10 ?_ | refine S11 ?_ | refine S12 ?_ | refine S13 ?_ | refine S14 ?_ | refine S15 ?_ | refine S16 ?_ | refine S17 ?_ ?_ | refine S18 ?_ | refine S19 ?_ | refine S20 ?_ | refine S21 ?_ | refine S22 ?_ | refine S23 ?_ | refine S24 ?_ | refine S25 ?_ | refine S26 ?_ | refine S27 ?_ | refine S28 ?_ | refine S29 ?_ | refine S30 ?_ | refine S31 ?_ | refine S32 ?_ | refine S33 ?_ | refine S34 ?_ | refine S35 ?_ | refine S36 ?_ | refine S37 ?_ | refine S38 ?_ | refine S39 ?_ | refine S40 ?_ | refine S41 ?_ | refine S42 ?_ | refine S43 ?_ | refine S44 ?_ | refine S45 ?_ | refine S46 ?_ | refine S47 ?_ | refine S48 ?_ | refine S49 ?_ | refine S50 ?_ | refine S51 ?_ | refine S52 ?_ | refine S53 ?_ | refine S54 ?_ | refine S55 ?_ | refine S56 ?_ | refine S57 ?_ | refine S58 ?_ | refine S59 ?_ | refine S60 ?_ | refine S61 ?_ | refine S62 ?_ | refine S63 ?_ | refine S64 ?_ | refine S65 ?_ | refine S66 ?_ | refine S67 ?_ | refine S68 ?_ | refine S69 ?_ | refine S70 ?_ | refine S71 ?_ | refine S72 ?_ | refine S73 ?_ | refine S74 ?_ | refine S75 ?_ | refine S76 ?_ | refine S77 ?_ | refine S78 ?_ | refine S79 ?_ | refine S80 ?_ | refine S81 ?_ | refine S82 ?_ | refine S83 ?_ | refine S84 ?_ | refine S85 ?_ | refine S86 ?_ | refine S87 ?_)
  refine Scall (args := [.lst true 1 2 [.lst true 2 2 [pint 1, plt [1], pint 0, plt [1]], .lst true 2 2 [pint 0, plt [1], pint 1, plt [1]]]]) k2 ?_
  repeat (first | refine S0 ?_ | refine S1 ?_ | refine S2 ?_ | refine S3 ?_ | refine S4 ?_ | refine S5 ?_ | refine S6 ?_ | refine S7 ?_ | refine S8 ?_ | refine S9 ?_ | refine S10 ?_ | refine S11 ?_ | refine S12 ?_ | refine S13 ?_ | refine S14 ?_ | refine S15 ?_ | refine S16 ?_ | refine S17 ?_ ?_ | refine S18 ?_ | refine S19 ?_ | refine S20 ?_ | refine S21 ?_ | refine S22 ?_ | refine S23 ?_ | refine S24 ?_ | refine S25 ?_ | refine S26 ?_ | refine S27 ?_ | refine S28 ?_ | refine S29 ?_ | refine S30 ?_ | refine S31 ?_ | refine S32 ?_ | refine S33 ?_ | refine S34 ?_ | refine S35 ?_ | refine S36 ?_ | refine S37 ?_ | refine S38 ?_ | refine S39 ?_ | refine S40 ?_ | refine S41 ?_ | refine S42 ?_ | refine S43 ?_ | refine S44 ?_ | refine S45 ?_ | refine S46 ?_ | refine S47 ?_ | refine S48 ?_ | refine S49 ?_ | refine S50 ?_ | refine S51 ?_ | refine S52 ?_ | refine S53 ?_ | refine S54 ?_ | refine S55 ?_ | refine S56 ?_ | refine S57 ?_ | refine S58 ?_ | refine S59 ?_ | refine S60 ?_ | refine S61 ?_ | refine S62 ?_ | refine S63 ?_ | refine S64 ?_ | refine S65 ?_ | refine S66 ?_ | refine S67 ?_ | refine S68 ?_ | refine S69 ?_ | refine S70 ?_ | refine S71 ?_ | refine S72 ?_ | refine S73 ?_ | refine S74 ?_ | refine S75 ?_ | refine S76 ?_ | refine S77 ?_ | refine S78 ?_ | refine S79 ?_ | refine S80 ?_ | refine S81 ?_ | refine S82 ?_ | refine S83 ?_ | refine S84 ?_ | refine S85 ?_ | refine S86 ?_ | refine S87 ?_)
  refine Scall (args := [ppss m]) (hc := by simp only [PV.cl.clL, ppss_cl, Bool.and_self]) k3 ?_
  repeat (first | refine S0 ?_ | refine S1 ?_ | refine S2 ?_ | refine S3 ?_ | refine S4 ?_ | refine S5 ?_ | refine S6 ?_ | refine S7 ?_ | refine S8 ?_ | refine S9 ?_ | refine S10 ?_ | refine S11 ?_ | refine S12 ?_ | refine S13 ?_ | refine S14 ?_ | refine S15 ?_ | refine S16 ?_ | refine S17 ?_ ?_ | refine S18 ?_ | refine S19 ?_ | refine S20 ?_ | refine S21 ?_ | refine S22 ?_ | refine S23 ?_ | refine S24 ?_ | refine S25 ?_ | refine S26 ?_ | refine S27 ?_ | refine S28 ?_ | refine S29 ?_ | refine S30 ?_ | refine S31 ?_ | refine S32 ?_ | refine S33 ?_ | refine S34 ?_ | refine S35 ?_ | refine S36 ?_ | refine S37 ?_ | refine S38 ?_ | refine S39 ?_ | refine S40 ?_ | refine S41 ?_ | refine S42 ?_ | refine S43 ?_ | refine S44 ?_ | refine S45 ?_ | refine S46 ?_ | refine S47 ?_ | refine S48 ?_ | refine S49 ?_ | refine S50 ?_ | refine S51 ?_ | refine S52 ?_ | refine S53 ?_ | refine S54 ?_ | refine S55 ?_ | refine S56 ?_ | refine S57 ?_ | refine S58 ?_ | refine S59 ?_ | refine S60 ?_ | refine S61 ?_ | refine S62 ?_ | refine S63 ?_ | refine S64 ?_ | refine S65 ?_ | refine S66 ?_ | refine S67 ?_ | refine S68 ?_ | refine S69 ?_ | refine S70 ?_ | refine S71 ?_ | refine S72 ?_ | refine S73 ?_ | refine S74 ?_ | refine S75 ?_ | refine S76 ?_ | refine S77 ?_ | refine S78 ?_ | refine S79 ?_ | refine S80 ?_ | refine S81 ?_ | refine S82 ?_ | refine S83 ?_ | refine S84 ?_ | refine S85 ?_ | refine S86 ?_ | refine S87 ?_)
  refine Scall (args := [.agg [pint 0, pli [-1, 0, 1]], .agg [pint 0, .lst true 1 3 (ints [-1, 0, 1])]]) k4 ?_
  repeat (first | refine S0 ?_ | refine S1 ?_ | refine S2 ?_ | refine S3 ?_ | refine S4 ?_ | refine S5 ?_ | refine S6 ?_ | refine S7 ?_ | refine S8 ?_ | refine S9 ?_ | refine S10 ?_ | refine S11 ?_ | refine S12 ?_ | refine S13 ?_ | refine S14 ?_ | refine S15 ?_ | refine S16 ?_ | refine S17 ?_ ?_ | refine S18 ?_ | refine S19 ?_ | refine S20 ?_ | refine S21 ?_ | refine S22 ?_ | refine S23 ?_ | refine S24 ?_ | refine S25 ?_ | refine S26 ?_ | refine S27 ?_ | refine S28 ?_ | refine S29 ?_ | refine S30 ?_ | refine S31 ?_ | refine S32 ?_ | refine S33 ?_ | refine S34 ?_ | refine S35 ?_ | refine S36 ?_ | refine S37 ?_ | refine S38 ?_ | refine S39 ?_ | refine S40 ?_ | refine S41 ?_ | refine S42 ?_ | refine S43 ?_ | refine S44 ?_ | refine S45 ?_ | refine S46 ?_ | refine S47 ?_ | refine S48 ?_ | refine S49 ?_ | refine S50 ?_ | refine S51 ?_ | refine S52 ?_ | refine S53 ?_ | refine S54 ?_ | refine S55 ?_ | refine S56 ?_ | refine S57 ?_ | refine S58 ?_ | refine S59 ?_ | refine S60 ?_ | refine S61 ?_ | refine S62 ?_ | refine S63 ?_ | refine S64 ?_ | refine S65 ?_ | refine S66 ?_ | refine S67 ?_ | refine S68 ?_ | refine S69 ?_ | refine S70 ?_ | refine S71 ?_ | refine S72 ?_ | refine S73 ?_ | refine S74 ?_ | refine S75 ?_ | refine S76 ?_ | refine S77 ?_ | refine S78 ?_ | refine S79 ?_ | refine S80 ?_ | refine S81 ?_ | refine S82 ?_ | refine S83 ?_ | refine S84 ?_ | refine S85 ?_ | refine S86 ?_ | refine S87 ?_)
  refine CW.cut [(0, ppss m), (2, .sc (.bool false)), (3, .ptr 1 0), (4, pint e1), (5, pint (sqF m)), (10, .ptr 9 0), (56, .sc (.bool (decide (sqF m = 0))))] (fun hp => hp.blk 1 = some [pint l1, pli c1] ∧ hp.blk 9 = some [pint 0, .lst true 0 0 []] ∧ hp.next = 5) ⟨SLx, ?_⟩ ?_
  · dsimp only
    refine ⟨HBx, HBx, ?_⟩
    simp only [HP.next_add, HP.next_set, HP.next_H0]
  rintro t h ⟨b1, b9, hN⟩
  first | simp only [updS] | simp only [updL, Nat.reduceAdd]
  by_cases h0 : sqF m = 0
  · have hs := sqF_ok h0
    have ht := tmM_is hs
    obtain ⟨f, hf1, hf2, hf3⟩ := polydet_s ht
    have kp := polyW_s hf1 hf2 (by have := hs.hn; omega)
    rw [show poW (lapP (mM m) (List.range m.length) (List.range m.length)) = dP m from rfl] at kp
    have kf := fits_s (dP m)
    unfold fitP at kf
    have hP2 : ((l1, c1) : Po) = if pF (dP m) = 0 then dP m else (0, []) := by rw [hP1]; unfold detP; rw [if_pos h0]
    have he2 : e1 = if pF (dP m) = 0 then 0 else 2 := by rw [he1]; unfold detE; rw [if_pos h0]
    rw [← hP2, ← he2] at kf
    have ks := same_s (l1, c1) (l1, c1)
    rw [decide_eq_true rfl] at ks
    repeat (first | refine S0 ?_ | refine S1 ?_ | refine S2 ?_ | refine S3 ?_ | refine S4 ?_ | refine S5 ?_ | refine S6 ?_ | refine S7 ?_ | refine S8 ?_ | refine S9 ?_ | refine S10 ?_ | refine S11 ?_ | refine S12 ?_ | refine S13 ?_ | refine S14 ?_ | refine S15 ?_ | refine S16 ?_ | refine S17 ?_ ?_ | refine S18 ?_ | refine S19 ?_ | refine S20 ?_ | refine S21 ?_ | refine S22 ?_ | refine S23 ?_ | refine S24 ?_ | refine S25 ?_ | refine S26 ?_ | refine S27 ?_ | refine S28 ?_ | refine S29 ?_ | refine S30 ?_ | refine S31 ?_ | refine S32 ?_ | refine S33 ?_ | refine S34 ?_ | refine S35 ?_ | refine S36 ?_ | refine S37 ?_ | refine S38 ?_ | refine S39 ?_ | refine S40 ?_ | refine S41 ?_ | refine S42 ?_ | refine S43 ?_ | refine S44 ?_ | refine S45 ?_ | refine S46 ?_ | refine S47 ?_ | refine S48 ?_ | refine S49 ?_ | refine S50 ?_ | refine S51 ?_ | refine S52 ?_ | refine S53 ?_ | refine S54 ?_ | refine S55 ?_ | refine S56 ?_ | refine S57 ?_ | refine S58 ?_ | refine S59 ?_ | refine S60 ?_ | refine S61 ?_ | refine S62 ?_ | refine S63 ?_ | refine S64 ?_ | refine S65 ?_ | refine S66 ?_ | refine S67 ?_ | refine S68 ?_ | refine S69 ?_ | refine S70 ?_ | refine S71 ?_ | refine S72 ?_ | refine S73 ?_ | refine S74 ?_ | refine S75 ?_ | refine S76 ?_ | refine S77 ?_ | refine S78 ?_ | refine S79 ?_ | refine S80 ?_ | refine S81 ?_ | refine S82 ?_ | refine S83 ?_ | refine S84 ?_ | refine S85 ?_ | refine S86 ?_ | refine S87 ?_)
    refine CW.own 11 1 rfl ?_
    refine CW.loopS (fun i : Nat × Nat => i.1 ≤ m.length ∧ i.2 % 2 = 0) (fun i => [(3, .ptr 1 0), (4, pint e1), (10, .ptr 9 0), (11, .ref i.2 0 1 i.1), (57, ppss m), (58, pint m.length), (59, pint i.1)])
      (fun i hp => hp.blk 1 = some [pint l1, pli c1] ∧ hp.blk 9 = some [pint 0, .lst true 0 0 []] ∧ hp.blk i.2 = some (((tmM m).take i.1).map ptms) ∧ i.2 < 2 * hp.next ∧ 5 ≤ hp.next) (fun i => m.length - i.1) (0, 10) ⟨⟨Nat.zero_le _, rfl⟩, ?_, ?_⟩ ?_
    · have et : h.tok false = 10 := by rw [HP.tokF, hN]
      rw [et]; exact SLx
    · have et : h.tok false = 10 := by rw [HP.tokF, hN]
      dsimp only
      refine ⟨HBx, HBx, ?_, ?_, ?_⟩
      · rw [← et]; exact HP.add_same _ _ _
      · simp only [HP.next_add]; omega
      · simp only [HP.next_add]; omega
    clear b1 b9 hN t h
    rintro ⟨i, T⟩ t h ⟨hi, hT⟩ ⟨b1, b9, bT, hTn, hN⟩
    simp only at hi hT bT hTn
    first | simp only [updS] | simp only [updL, Nat.reduceAdd]
    have hcm : (tmM m).length = m.length := by simp [tmM]
    have h4 := hs.hn
    by_cases hi2 : i < m.length
    · obtain ⟨row, hrow⟩ : ∃ row, row = m.getD i [] := ⟨_, rfl⟩
      have hrl : row.length = m.length := by rw [hrow]; exact hs.row i hi2
      have hpl := pos_length row
      repeat (first | refine S0 ?_ | refine S1 ?_ | refine S2 ?_ | refine S3 ?_ | refine S4 ?_ | refine S5 ?_ | refine S6 ?_ | refine S7 ?_ | refine S8 ?_ | refine S9 ?_ | refine S10 ?_ | refine S11 ?_ | refine S12 ?_ | refine S13 ?_ | refine S14 ?_ | refine S15 ?_ | refine S16 ?_ | refine S17 ?_ ?_ | refine S18 ?_ | refine S19 ?_ | refine S20 ?_ | refine S21 ?_ | refine S22 ?_ | refine S23 ?_ | refine S24 ?_ | refine S25 ?_ | refine S26 ?_ | refine S27 ?_ | refine S28 ?_ | refine S29 ?_ | refine S30 ?_ | refine S31 ?_ | refine S32 ?_ | refine S33 ?_ | refine S34 ?_ | refine S35 ?_ | refine S36 ?_ | refine S37 ?_ | refine S38 ?_ | refine S39 ?_ | refine S40 ?_ | refine S41 ?_ | refine S42 ?_ | refine S43 ?_ | refine S44 ?_ | refine S45 ?_ | refine S46 ?_ | refine S47 ?_ | refine S48 ?_ | refine S49 ?_ | refine S50 ?_ | refine S51 ?_ | refine S52 ?_ | refine S53 ?_ | refine S54 ?_ | refine S55 ?_ | refine S56 ?_ | refine S57 ?_ | refine S58 ?_ | refine S59 ?_ | refine S60 ?_ | refine S61 ?_ | refine S62 ?_ | refine S63 ?_ | refine S64 ?_ | refine S65 ?_ | refine S66 ?_ | refine S67 ?_ | refine S68 ?_ | refine S69 ?_ | refine S70 ?_ | refine S71 ?_ | refine S72 ?_ | refine S73 ?_ | refine S74 ?_ | refine S75 ?_ | refine S76 ?_ | refine S77 ?_ | refine S78 ?_ | refine S79 ?_ | refine S80 ?_ | refine S81 ?_ | refine S82 ?_ | refine S83 ?_ | refine S84 ?_ | refine S85 ?_ | refine S86 ?_ | refine S87 ?_)
      rw [← hrow]
      repeat (first | refine S0 ?_ | refine S1 ?_ | refine S2 ?_ | refine S3 ?_ | refine S4 ?_ | refine S5 ?_ | refine S6 ?_ | refine S7 ?_ | refine S8 ?_ | refine S9 ?_ | refine S10 ?_ | refine S11 ?_ | refine S12 ?_ | refine S13 ?_ | refine S14 ?_ | refine S15 ?_ | refine S16 ?_ | refine S17 ?_ ?_ | refine S18 ?_ | refine S19 ?_ | refine S20 ?_ | refine S21 ?_ | refine S22 ?_ | refine S23 ?_ | refine S24 ?_ | refine S25 ?_ | refine S26 ?_ | refine S27 ?_ | refine S28 ?_ | refine S29 ?_ | refine S30 ?_ | refine S31 ?_ | refine S32 ?_ | refine S33 ?_ | refine S34 ?_ | refine S35 ?_ | refine S36 ?_ | refine S37 ?_ | refine S38 ?_ | refine S39 ?_ | refine S40 ?_ | refine S41 ?_ | refine S42 ?_ | refine S43 ?_ | refine S44 ?_ | refine S45 ?_ | refine S46 ?_ | refine S47 ?_ | refine S48 ?_ | refine S49 ?_ | refine S50 ?_ | refine S51 ?_ | refine S52 ?_ | refine S53 ?_ | refine S54 ?_ | refine S55 ?_ | refine S56 ?_ | refine S57 ?_ | refine S58 ?_ | refine S59 ?_ | refine S60 ?_ | refine S61 ?_ | refine S62 ?_ | refine S63 ?_ | refine S64 ?_ | refine S65 ?_ | refine S66 ?_ | refine S67 ?_ | refine S68 ?_ | refine S69 ?_ | refine S70 ?_ | refine S71 ?_ | refine S72 ?_ | refine S73 ?_ | refine S74 ?_ | refine S75 ?_ | refine S76 ?_ | refine S77 ?_ | refine S78 ?_ | refine S79 ?_ | refine S80 ?_ | refine S81 ?_ | refine S82 ?_ | refine S83 ?_ | refine S84 ?_ | refine S85 ?_ | refine S86 ?_ | refine S87 ?_)
      refine CW.own 14 1 rfl ?_
      refine CW.loopS (fun j : Nat × Nat => j.1 ≤ row.length ∧ j.2 % 2 = 0 ∧ j.2 ≠ T) (fun j => [(3, .ptr 1 0), (4, pint e1), (10, .ptr 9 0), (11, .ref T 0 1 i), (14, .ref j.2 0 1 j.1), (57, ppss m), (58, pint m.length), (59, pint i), (63, pps row), (64, pint row.length), (65, pint j.1)])
        (fun j hp => hp.blk 1 = some [pint l1, pli c1] ∧ hp.blk 9 = some [pint 0, .lst true 0 0 []] ∧ hp.blk T = some (((tmM m).take i).map ptms) ∧ hp.blk j.2 = some (((row.take j.1).map spl).map ptm) ∧ T < 2 * hp.next ∧ j.2 < 2 * hp.next ∧ 5 ≤ hp.next) (fun j => row.length - j.1) (0, 2 * h.next) ⟨⟨Nat.zero_le _, by simp only; omega, by simp only; omega⟩, SLx, ?_⟩ ?_
      · dsimp only
        refine ⟨HBx, HBx, HBx, HBx, ?_, ?_, ?_⟩ <;> simp only [HP.next_add] <;> omega
      clear b1 b9 bT hTn hN t h
      rintro ⟨j, S⟩ t h ⟨hj, hSe, hST⟩ ⟨b1, b9, bT, bS, hTn, hSn, hN⟩
      simp only at hj hSe hST bS hSn
      first | simp only [updS] | simp only [updL, Nat.reduceAdd]
      by_cases hj2 : j < row.length
      · have hat := pos_at hj2
        have hel := hs.el i j hi2 (by omega)
        rw [← hrow] at hel
        obtain ⟨p, hp⟩ : ∃ p, p = row.getD j (0, []) := ⟨_, rfl⟩
        rw [← hp] at hat hel
        obtain ⟨g0, g1, g2⟩ := elF_ok hel
        have hsp := split_s p (by omega) (by omega)
        have hsn : (row.take j).map spl ++ [spl p] = (row.take (j + 1)).map spl := by
          rw [List.take_succ_eq_append_getElem hj2, List.map_append, hp, getD_lt _ hj2]; rfl
        have hl : ((row.take j).map spl).length = j := by simp; omega
        obtain ⟨pl, pc⟩ := p
        repeat (first | refine S0 ?_ | refine S1 ?_ | refine S2 ?_ | refine S3 ?_ | refine S4 ?_ | refine S5 ?_ | refine S6 ?_ | refine S7 ?_ | refine S8 ?_ | refine S9 ?_ | refine S10 ?_ | refine S11 ?_ | refine S12 ?_ | refine S13 ?_ | refine S14 ?_ | refine S15 ?_ | refine S16 ?_ | refine S17 ?_ ?_ | refine S18 ?_ | refine S19 ?_ | refine S20 ?_ | refine S21 ?_ | refine S22 ?_ | refine S23 ?_ | refine S24 ?_ | refine S25 ?_ | refine S26 ?_ | refine S27 ?_ | refine S28 ?_ | refine S29 ?_ | refine S30 ?_ | refine S31 ?_ | refine S32 ?_ | refine S33 ?_ | refine S34 ?_ | refine S35 ?_ | refine S36 ?_ | refine S37 ?_ | refine S38 ?_ | refine S39 ?_ | refine S40 ?_ | refine S41 ?_ | refine S42 ?_ | refine S43 ?_ | refine S44 ?_ | refine S45 ?_ | refine S46 ?_ | refine S47 ?_ | refine S48 ?_ | refine S49 ?_ | refine S50 ?_ | refine S51 ?_ | refine S52 ?_ | refine S53 ?_ | refine S54 ?_ | refine S55 ?_ | refine S56 ?_ | refine S57 ?_ | refine S58 ?_ | refine S59 ?_ | refine S60 ?_ | refine S61 ?_ | refine S62 ?_ | refine S63 ?_ | refine S64 ?_ | refine S65 ?_ | refine S66 ?_ | refine S67 ?_ | refine S68 ?_ | refine S69 ?_ | refine S70 ?_ | refine S71 ?_ | refine S72 ?_ | refine S73 ?_ | refine S74 ?_ | refine S75 ?_ | refine S76 ?_ | refine S77 ?_ | refine S78 ?_ | refine S79 ?_ | refine S80 ?_ | refine S81 ?_ | refine S82 ?_ | refine S83 ?_ | refine S84 ?_ | refine S85 ?_ | refine S86 ?_ | refine S87 ?_)
        refine AW.ldla (r := [pint pl, pli pc]) EVx rfl (by rw [List.length_drop, hpl, Int.toNat_natCast]; omega) (by rw [Int.toNat_natCast]; exact hat) ?_
        repeat (first | refine S0 ?_ | refine S1 ?_ | refine S2 ?_ | refine S3 ?_ | refine S4 ?_ | refine S5 ?_ | refine S6 ?_ | refine S7 ?_ | refine S8 ?_ | refine S9 ?_ | refine S10 ?_ | refine S11 ?_ | refine S12 ?_ | refine S13 ?_ | refine S14 ?_ | refine S15 ?_ | refine S16 ?_ | refine S17 ?_ ?_ | refine S18 ?_ | refine S19 ?_ | refine S20 ?_ | refine S21 ?_ | refine S22 ?_ | refine S23 ?_ | refine S24 ?_ | refine S25 ?_ | refine S26 ?_ | refine S27 ?_ | refine S28 ?_ | refine S29 ?_ | refine S30 ?_ | refine S31 ?_ | refine S32 ?_ | refine S33 ?_ | refine S34 ?_ | refine S35 ?_ | refine S36 ?_ | refine S37 ?_ | refine S38 ?_ | refine S39 ?_ | refine S40 ?_ | refine S41 ?_ | refine S42 ?_ | refine S43 ?_ | refine S44 ?_ | refine S45 ?_ | refine S46 ?_ | refine S47 ?_ | refine S48 ?_ | refine S49 ?_ | refine S50 ?_ | refine S51 ?_ | refine S52 ?_ | refine S53 ?_ | refine S54 ?_ | refine S55 ?_ | refine S56 ?_ | refine S57 ?_ | refine S58 ?_ | refine S59 ?_ | refine S60 ?_ | refine S61 ?_ | refine S62 ?_ | refine S63 ?_ | refine S64 ?_ | refine S65 ?_ | refine S66 ?_ | refine S67 ?_ | refine S68 ?_ | refine S69 ?_ | refine S70 ?_ | refine S71 ?_ | refine S72 ?_ | refine S73 ?_ | refine S74 ?_ | refine S75 ?_ | refine S76 ?_ | refine S77 ?_ | refine S78 ?_ | refine S79 ?_ | refine S80 ?_ | refine S81 ?_ | refine S82 ?_ | refine S83 ?_ | refine S84 ?_ | refine S85 ?_ | refine S86 ?_ | refine S87 ?_)
        refine Scall (args := [ppo (pl, pc)]) hsp ?_
        repeat (first | refine S0 ?_ | refine S1 ?_ | refine S2 ?_ | refine S3 ?_ | refine S4 ?_ | refine S5 ?_ | refine S6 ?_ | refine S7 ?_ | refine S8 ?_ | refine S9 ?_ | refine S10 ?_ | refine S11 ?_ | refine S12 ?_ | refine S13 ?_ | refine S14 ?_ | refine S15 ?_ | refine S16 ?_ | refine S17 ?_ ?_ | refine S18 ?_ | refine S19 ?_ | refine S20 ?_ | refine S21 ?_ | refine S22 ?_ | refine S23 ?_ | refine S24 ?_ | refine S25 ?_ | refine S26 ?_ | refine S27 ?_ | refine S28 ?_ | refine S29 ?_ | refine S30 ?_ | refine S31 ?_ | refine S32 ?_ | refine S33 ?_ | refine S34 ?_ | refine S35 ?_ | refine S36 ?_ | refine S37 ?_ | refine S38 ?_ | refine S39 ?_ | refine S40 ?_ | refine S41 ?_ | refine S42 ?_ | refine S43 ?_ | refine S44 ?_ | refine S45 ?_ | refine S46 ?_ | refine S47 ?_ | refine S48 ?_ | refine S49 ?_ | refine S50 ?_ | refine S51 ?_ | refine S52 ?_ | refine S53 ?_ | refine S54 ?_ | refine S55 ?_ | refine S56 ?_ | refine S57 ?_ | refine S58 ?_ | refine S59 ?_ | refine S60 ?_ | refine S61 ?_ | refine S62 ?_ | refine S63 ?_ | refine S64 ?_ | refine S65 ?_ | refine S66 ?_ | refine S67 ?_ | refine S68 ?_ | refine S69 ?_ | refine S70 ?_ | refine S71 ?_ | refine S72 ?_ | refine S73 ?_ | refine S74 ?_ | refine S75 ?_ | refine S76 ?_ | refine S77 ?_ | refine S78 ?_ | refine S79 ?_ | refine S80 ?_ | refine S81 ?_ | refine S82 ?_ | refine S83 ?_ | refine S84 ?_ | refine S85 ?_ | refine S86 ?_ | refine S87 ?_)
        refine AW.app EVx (by first | exact Or.inl rfl | exact Or.inr ⟨rfl, HP.tok_even _⟩ | exact Or.inr (Or.inl rfl) | exact Or.inr (Or.inr (Or.inl rfl)) | exact Or.inr (Or.inr (Or.inr ⟨rfl, HP.tok_odd _⟩)) | exact Or.inr ⟨rfl, by assumption⟩ | exact Or.inr (Or.inr (Or.inr ⟨rfl, by assumption⟩)) | exact Or.inr (Or.inr rfl) | exact Or.inr rfl) rfl HBx (by first | exact ⟨rfl, rfl, .inr rfl⟩ | exact ⟨rfl, rfl, .inl rfl⟩ | (simp only [evA, upd, putA, Nat.reduceEqDiff, ↓reduceIte]; first | exact ⟨rfl, rfl, .inr rfl⟩ | exact ⟨rfl, rfl, .inl rfl⟩)) (by rw [List.length_map, hl]; omega) (by intro p hp; simp only [List.mem_singleton] at hp; subst hp; rfl) ⟨by omega, by omega⟩ (app_mapG (F := ptm) hl.symm) rfl ?_
        rw [hsn]
        repeat (first | refine S0 ?_ | refine S1 ?_ | refine S2 ?_ | refine S3 ?_ | refine S4 ?_ | refine S5 ?_ | refine S6 ?_ | refine S7 ?_ | refine S8 ?_ | refine S9 ?_ | refine S10 ?_ | refine S11 ?_ | refine S12 ?_ | refine S13 ?_ | refine S14 ?_ | refine S15 ?_ | refine S16 ?_ | refine S17 ?_ ?_ | refine S18 ?_ | refine S19 ?_ | refine S20 ?_ | refine S21 ?_ | refine S22 ?_ | refine S23 ?_ | refine S24 ?_ | refine S25 ?_ | refine S26 ?_ | refine S27 ?_ | refine S28 ?_ | refine S29 ?_ | refine S30 ?_ | refine S31 ?_ | refine S32 ?_ | refine S33 ?_ | refine S34 ?_ | refine S35 ?_ | refine S36 ?_ | refine S37 ?_ | refine S38 ?_ | refine S39 ?_ | refine S40 ?_ | refine S41 ?_ | refine S42 ?_ | refine S43 ?_ | refine S44 ?_ | refine S45 ?_ | refine S46 ?_ | refine S47 ?_ | refine S48 ?_ | refine S49 ?_ | refine S50 ?_ | refine S51 ?_ | refine S52 ?_ | refine S53 ?_ | refine S54 ?_ | refine S55 ?_ | refine S56 ?_ | refine S57 ?_ | refine S58 ?_ | refine S59 ?_ | refine S60 ?_ | refine S61 ?_ | refine S62 ?_ | refine S63 ?_ | refine S64 ?_ | refine S65 ?_ | refine S66 ?_ | refine S67 ?_ | refine S68 ?_ | refine S69 ?_ | refine S70 ?_ | refine S71 ?_ | refine S72 ?_ | refine S73 ?_ | refine S74 ?_ | refine S75 ?_ | refine S76 ?_ | refine S77 ?_ | refine S78 ?_ | refine S79 ?_ | refine S80 ?_ | refine S81 ?_ | refine S82 ?_ | refine S83 ?_ | refine S84 ?_ | refine S85 ?_ | refine S86 ?_ | refine S87 ?_)
        refine ⟨(j + 1, 2 * (h.next + 1)), ⟨by simp only; omega, by simp only; omega, by simp only; omega⟩, SLx, ?_, by simp only; omega⟩
        dsimp only
        refine ⟨HBx, HBx, HBx, HBx, ?_, ?_, ?_⟩ <;> simp only [HP.next_add, HP.next_set, HP.next_kill] <;> omega
      · obtain rfl : j = row.length := by omega
        rw [List.take_length] at bS
        refine CW.freezeL 14 (xs := row.map spl) (F := ptm) (by rw [List.length_map]; rfl) bS ?_
        have hsn : (tmM m).take i ++ [row.map spl] = (tmM m).take (i + 1) := by
          have e : (tmM m)[i]'(by omega) = row.map spl := by
            unfold tmM
            rw [List.getElem_map]
            exact congrArg (List.map spl) (hrow.trans (getD_lt [] hi2)).symm
          rw [List.take_succ_eq_append_getElem (by omega), e]
        have hl : ((tmM m).take i).length = i := by rw [List.length_take]; omega
        repeat (first | refine S0 ?_ | refine S1 ?_ | refine S2 ?_ | refine S3 ?_ | refine S4 ?_ | refine S5 ?_ | refine S6 ?_ | refine S7 ?_ | refine S8 ?_ | refine S9 ?_ | refine S10 ?_ | refine S11 ?_ | refine S12 ?_ | refine S13 ?_ | refine S14 ?_ | refine S15 ?_ | refine S16 ?_ | refine S17 ?_ ?_ | refine S18 ?_ | refine S19 ?_ | refine S20 ?_ | refine S21 ?_ | refine S22 ?_ | refine S23 ?_ | refine S24 ?_ | refine S25 ?_ | refine S26 ?_ | refine S27 ?_ | refine S28 ?_ | refine S29 ?_ | refine S30 ?_ | refine S31 ?_ | refine S32 ?_ | refine S33 ?_ | refine S34 ?_ | refine S35 ?_ | refine S36 ?_ | refine S37 ?_ | refine S38 ?_ | refine S39 ?_ | refine S40 ?_ | refine S41 ?_ | refine S42 ?_ | refine S43 ?_ | refine S44 ?_ | refine S45 ?_ | refine S46 ?_ | refine S47 ?_ | refine S48 ?_ | refine S49 ?_ | refine S50 ?_ | refine S51 ?_ | refine S52 ?_ | refine S53 ?_ | refine S54 ?_ | refine S55 ?_ | refine S56 ?_ | refine S57 ?_ | refine S58 ?_ | refine S59 ?_ | refine S60 ?_ | refine S61 ?_ | refine S62 ?_ | refine S63 ?_ | refine S64 ?_ | refine S65 ?_ | refine S66 ?_ | refine S67 ?_ | refine S68 ?_ | refine S69 ?_ | refine S70 ?_ | refine S71 ?_ | refine S72 ?_ | refine S73 ?_ | refine S74 ?_ | refine S75 ?_ | refine S76 ?_ | refine S77 ?_ | refine S78 ?_ | refine S79 ?_ | refine S80 ?_ | refine S81 ?_ | refine S82 ?_ | refine S83 ?_ | refine S84 ?_ | refine S85 ?_ | refine S86 ?_ | refine S87 ?_)
        rw [hsn]
        refine ⟨(i + 1, 2 * h.next), ⟨by simp only; omega, by simp only; omega⟩, SLx, ?_, by simp only; omega⟩
        dsimp only
        refine ⟨HBx, HBx, HBx, ?_, ?_⟩ <;> simp only [HP.next_add, HP.next_set, HP.next_kill] <;> omega
    · obtain rfl : i = m.length := by omega
      rw [← hcm, List.take_length] at bT
      rw [← hcm]
      refine CW.freezeL 11 (xs := tmM m) (F := ptms) rfl bT ?_
      repeat (first | refine S0 ?_ | refine S1 ?_ | refine S2 ?_ | refine S3 ?_ | refine S4 ?_ | refine S5 ?_ | refine S6 ?_ | refine S7 ?_ | refine S8 ?_ | refine S9 ?_ | refine S10 ?_ | refine S11 ?_ | refine S12 ?_ | refine S13 ?_ | refine S14 ?_ | refine S15 ?_ | refine S16 ?_ | refine S17 ?_ ?_ | refine S18 ?_ | refine S19 ?_ | refine S20 ?_ | refine S21 ?_ | refine S22 ?_ | refine S23 ?_ | refine S24 ?_ | refine S25 ?_ | refine S26 ?_ | refine S27 ?_ | refine S28 ?_ | refine S29 ?_ | refine S30 ?_ | refine S31 ?_ | refine S32 ?_ | refine S33 ?_ | refine S34 ?_ | refine S35 ?_ | refine S36 ?_ | refine S37 ?_ | refine S38 ?_ | refine S39 ?_ | refine S40 ?_ | refine S41 ?_ | refine S42 ?_ | refine S43 ?_ | refine S44 ?_ | refine S45 ?_ | refine S46 ?_ | refine S47 ?_ | refine S48 ?_ | refine S49 ?_ | refine S50 ?_ | refine S51 ?_ | refine S52 ?_ | refine S53 ?_ | refine S54 ?_ | refine S55 ?_ | refine S56 ?_ | refine S57 ?_ | refine S58 ?_ | refine S59 ?_ | refine S60 ?_ | refine S61 ?_ | refine S62 ?_ | refine S63 ?_ | refine S64 ?_ | refine S65 ?_ | refine S66 ?_ | refine S67 ?_ | refine S68 ?_ | refine S69 ?_ | refine S70 ?_ | refine S71 ?_ | refine S72 ?_ | refine S73 ?_ | refine S74 ?_ | refine S75 ?_ | refine S76 ?_ | refine S77 ?_ | refine S78 ?_ | refine S79 ?_ | refine S80 ?_ | refine S81 ?_ | refine S82 ?_ | refine S83 ?_ | refine S84 ?_ | refine S85 ?_ | refine S86 ?_ | refine S87 ?_)
      refine Scall (args := [ptmss (tmM m)]) (hc := by simp only [PV.cl.clL, ptmss_cl, Bool.and_self]) hf3 ?_
      refine Scall (args := [.fmap (mi f)]) kp ?_
      refine Scall (args := [ppo (dP m)]) kf ?_
      repeat (first | refine S0 ?_ | refine S1 ?_ | refine S2 ?_ | refine S3 ?_ | refine S4 ?_ | refine S5 ?_ | refine S6 ?_ | refine S7 ?_ | refine S8 ?_ | refine S9 ?_ | refine S10 ?_ | refine S11 ?_ | refine S12 ?_ | refine S13 ?_ | refine S14 ?_ | refine S15 ?_ | refine S16 ?_ | refine S17 ?_ ?_ | refine S18 ?_ | refine S19 ?_ | refine S20 ?_ | refine S21 ?_ | refine S22 ?_ | refine S23 ?_ | refine S24 ?_ | refine S25 ?_ | refine S26 ?_ | refine S27 ?_ | refine S28 ?_ | refine S29 ?_ | refine S30 ?_ | refine S31 ?_ | refine S32 ?_ | refine S33 ?_ | refine S34 ?_ | refine S35 ?_ | refine S36 ?_ | refine S37 ?_ | refine S38 ?_ | refine S39 ?_ | refine S40 ?_ | refine S41 ?_ | refine S42 ?_ | refine S43 ?_ | refine S44 ?_ | refine S45 ?_ | refine S46 ?_ | refine S47 ?_ | refine S48 ?_ | refine S49 ?_ | refine S50 ?_ | refine S51 ?_ | refine S52 ?_ | refine S53 ?_ | refine S54 ?_ | refine S55 ?_ | refine S56 ?_ | refine S57 ?_ | refine S58 ?_ | refine S59 ?_ | refine S60 ?_ | refine S61 ?_ | refine S62 ?_ | refine S63 ?_ | refine S64 ?_ | refine S65 ?_ | refine S66 ?_ | refine S67 ?_ | refine S68 ?_ | refine S69 ?_ | refine S70 ?_ | refine S71 ?_ | refine S72 ?_ | refine S73 ?_ | refine S74 ?_ | refine S75 ?_ | refine S76 ?_ | refine S77 ?_ | refine S78 ?_ | refine S79 ?_ | refine S80 ?_ | refine S81 ?_ | refine S82 ?_ | refine S83 ?_ | refine S84 ?_ | refine S85 ?_ | refine S86 ?_ | refine S87 ?_)
      refine Scall (args := [ppo (l1, c1), ppo (l1, c1)]) ks ?_
      repeat (first | refine S0 ?_ | refine S1 ?_ | refine S2 ?_ | refine S3 ?_ | refine S4 ?_ | refine S5 ?_ | refine S6 ?_ | refine S7 ?_ | refine S8 ?_ | refine S9 ?_ | refine S10 ?_ | refine S11 ?_ | refine S12 ?_ | refine S13 ?_ | refine S14 ?_ | refine S15 ?_ | refine S16 ?_ | refine S17 ?_ ?_ | refine S18 ?_ | refine S19 ?_ | refine S20 ?_ | refine S21 ?_ | refine S22 ?_ | refine S23 ?_ | refine S24 ?_ | refine S25 ?_ | refine S26 ?_ | refine S27 ?_ | refine S28 ?_ | refine S29 ?_ | refine S30 ?_ | refine S31 ?_ | refine S32 ?_ | refine S33 ?_ | refine S34 ?_ | refine S35 ?_ | refine S36 ?_ | refine S37 ?_ | refine S38 ?_ | refine S39 ?_ | refine S40 ?_ | refine S41 ?_ | refine S42 ?_ | refine S43 ?_ | refine S44 ?_ | refine S45 ?_ | refine S46 ?_ | refine S47 ?_ | refine S48 ?_ | refine S49 ?_ | refine S50 ?_ | refine S51 ?_ | refine S52 ?_ | refine S53 ?_ | refine S54 ?_ | refine S55 ?_ | refine S56 ?_ | refine S57 ?_ | refine S58 ?_ | refine S59 ?_ | refine S60 ?_ | refine S61 ?_ | refine S62 ?_ | refine S63 ?_ | refine S64 ?_ | refine S65 ?_ | refine S66 ?_ | refine S67 ?_ | refine S68 ?_ | refine S69 ?_ | refine S70 ?_ | refine S71 ?_ | refine S72 ?_ | refine S73 ?_ | refine S74 ?_ | refine S75 ?_ | refine S76 ?_ | refine S77 ?_ | refine S78 ?_ | refine S79 ?_ | refine S80 ?_ | refine S81 ?_ | refine S82 ?_ | refine S83 ?_ | refine S84 ?_ | refine S85 ?_ | refine S86 ?_ | refine S87 ?_)
      exact ⟨.inr rfl, .cl rfl⟩
  · have hP2 : ((l1, c1) : Po) = (0, []) := by rw [hP1]; unfold detP; rw [if_neg h0]
    have he2 : e1 = sqF m := by rw [he1]; unfold detE; rw [if_neg h0]
    rw [Prod.mk.injEq] at hP2
    obtain ⟨rfl, rfl⟩ := hP2
    subst he2
    repeat (first | refine S0 ?_ | refine S1 ?_ | refine S2 ?_ | refine S3 ?_ | refine S4 ?_ | refine S5 ?_ | refine S6 ?_ | refine S7 ?_ | refine S8 ?_ | refine S9 ?_ | refine S10 ?_ | refine S11 ?_ | refine S12 ?_ | refine S13 ?_ | refine S14 ?_ | refine S15 ?_ | refine S16 ?_ | refine S17 ?_ ?_ | refine S18 ?_ | refine S19 ?_ | refine S20 ?_ | refine S21 ?_ | refine S22 ?_ | refine S23 ?_ | refine S24 ?_ | refine S25 ?_ | refine S26 ?_ | refine S27 ?_ | refine S28 ?_ | refine S29 ?_ | refine S30 ?_ | refine S31 ?_ | refine S32 ?_ | refine S33 ?_ | refine S34 ?_ | refine S35 ?_ | refine S36 ?_ | refine S37 ?_ | refine S38 ?_ | refine S39 ?_ | refine S40 ?_ | refine S41 ?_ | refine S42 ?_ | refine S43 ?_ | refine S44 ?_ | refine S45 ?_ | refine S46 ?_ | refine S47 ?_ | refine S48 ?_ | refine S49 ?_ | refine S50 ?_ | refine S51 ?_ | refine S52 ?_ | refine S53 ?_ | refine S54 ?_ | refine S55 ?_ | refine S56 ?_ | refine S57 ?_ | refine S58 ?_ | refine S59 ?_ | refine S60 ?_ | refine S61 ?_ | refine S62 ?_ | refine S63 ?_ | refine S64 ?_ | refine S65 ?_ | refine S66 ?_ | refine S67 ?_ | refine S68 ?_ | refine S69 ?_ | refine S70 ?_ | refine S71 ?_ | refine S72 ?_ | refine S73 ?_ | refine S74 ?_ | refine S75 ?_ | refine S76 ?_ | refine S77 ?_ | refine S78 ?_ | refine S79 ?_ | refine S80 ?_ | refine S81 ?_ | refine S82 ?_ | refine S83 ?_ | refine S84 ?_ | refine S85 ?_ | refine S86 ?_ | refine S87 ?_)
    refine Scall (args := [.agg [pint 0, pli []], .agg [pint 0, .lst true 0 0 []]]) kz ?_
    repeat (first | refine S0 ?_ | refine S1 ?_ | refine S2 ?_ | refine S3 ?_ | refine S4 ?_ | refine S5 ?_ | refine S6 ?_ | refine S7 ?_ | refine S8 ?_ | refine S9 ?_ | refine S10 ?_ | refine S11 ?_ | refine S12 ?_ | refine S13 ?_ | refine S14 ?_ | refine S15 ?_ | refine S16 ?_ | refine S17 ?_ ?_ | refine S18 ?_ | refine S19 ?_ | refine S20 ?_ | refine S21 ?_ | refine S22 ?_ | refine S23 ?_ | refine S24 ?_ | refine S25 ?_ | refine S26 ?_ | refine S27 ?_ | refine S28 ?_ | refine S29 ?_ | refine S30 ?_ | refine S31 ?_ | refine S32 ?_ | refine S33 ?_ | refine S34 ?_ | refine S35 ?_ | refine S36 ?_ | refine S37 ?_ | refine S38 ?_ | refine S39 ?_ | refine S40 ?_ | refine S41 ?_ | refine S42 ?_ | refine S43 ?_ | refine S44 ?_ | refine S45 ?_ | refine S46 ?_ | refine S47 ?_ | refine S48 ?_ | refine S49 ?_ | refine S50 ?_ | refine S51 ?_ | refine S52 ?_ | refine S53 ?_ | refine S54 ?_ | refine S55 ?_ | refine S56 ?_ | refine S57 ?_ | refine S58 ?_ | refine S59 ?_ | refine S60 ?_ | refine S61 ?_ | refine S62 ?_ | refine S63 ?_ | refine S64 ?_ | refine S65 ?_ | refine S66 ?_ | refine S67 ?_ | refine S68 ?_ | refine S69 ?_ | refine S70 ?_ | refine S71 ?_ | refine S72 ?_ | refine S73 ?_ | refine S74 ?_ | refine S75 ?_ | refine S76 ?_ | refine S77 ?_ | refine S78 ?_ | refine S79 ?_ | refine S80 ?_ | refine S81 ?_ | refine S82 ?_ | refine S83 ?_ | refine S84 ?_ | refine S85 ?_ | refine S86 ?_ | refine S87 ?_)
    exact ⟨.inr rfl, .cl rfl⟩
end Go.Proofs.Ytehilackpaejnaa
