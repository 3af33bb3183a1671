/- timbref1.PolyDet: the determinant over all permutations. No condition of its own. -/
import Derived.Test.YtenoiklocdoemaaGTopBurauDetBC
import Derived.Test.YtenoiklocdoemaaGTopBurauDetBH
import Derived.Test.YtenoiklocdoemaaGTopBurauDetBI
import Derived.Test.YtenoiklocdoemaaGTopBurauDetBB
import Derived.Test.YtenoiklocdoemaaGTopBurauDetBA
import Derived.Test.YtenoiklocdoemaaGTopBurauDetBD
set_option linter.unusedVariables false
set_option linter.unusedSimpArgs false
namespace Go.Proofs.Ytenoiklocdoemaa
open Go.RowKit

/-! ### rows of terms -/
def ptm (f : Tm) : PV := .fmap (mi f)
def ptms (l : List Tm) : PV := .lst false 1 l.length (l.map ptm)
def ptmss (m : List (List Tm)) : PV := .lst false 1 m.length (m.map ptms)
@[simp] theorem ptms_cl (l : List Tm) : (ptms l).cl = true := by
  simp only [ptms, PV.cl]
  refine clL_mem.2 (fun c hc => ?_)
  obtain ⟨x, _, rfl⟩ := List.mem_map.1 hc
  rfl
@[simp] theorem ptmss_cl (m : List (List Tm)) : (ptmss m).cl = true := by
  simp only [ptmss, PV.cl]
  refine clL_mem.2 (fun c hc => ?_)
  obtain ⟨x, _, rfl⟩ := List.mem_map.1 hc
  exact ptms_cl x
/-- no term -/
def tm0 : Tm := fun _ => none
/-- a square matrix of terms that stands for a matrix of the ring -/
structure TMx (tm : List (List Tm)) (n B : Nat) (M : Nat → Nat → LP) : Prop where
  hn : n ≤ 6
  hB : B ≤ 300
  len : tm.length = n
  row : ∀ i, i < n → (tm.getD i []).length = n
  is : ∀ i j, i < n → j < n → IsT B ((tm.getD i []).getD j tm0) (M i j)
  sup : ∀ i j, Sup B (M i j)
/-- the product that is made -/
noncomputable def tprd (tm : List (List Tm)) (q : List Nat) : Nat → Tm
  | 0 => fun x => if x = 0 then some (sgn (invs q)) else none
  | i + 1 => wT (tmul (tprd tm q i) ((tm.getD i []).getD (q.getD i 0) tm0))
/-- the sum that is made -/
noncomputable def tsum (tm : List (List Tm)) (n : Nat) (ps : List (List Nat)) : Tm := ps.foldl (fun f q => wT (tplus f (tprd tm q n) 1)) tm0
noncomputable def valT (tm : List (List Tm)) (n : Nat) (ps : List (List Nat)) : List PV := [.fmap (mi (tsum tm n ps))]
end Go.Proofs.Ytenoiklocdoemaa

/- polymatrix.Det, the law PolyDets. No condition of its own. -/
set_option linter.unusedVariables false
set_option linter.unusedSimpArgs false
namespace Go.Proofs.Ytenoiklocdoemaa
open Go.RowKit

/-- the matrix of the ring that a matrix of polynomials is -/
def mM (m : List (List Po)) (r c : Nat) : LP := lpo ((m.getD r []).getD c (0, []))
theorem elF_ok {p : Po} (h : elF p = 0) : pF p = 0 ∧ p.2.length ≤ 20 ∧ (-20 ≤ p.1 ∧ p.1 ≤ 20) := by
  unfold elF at h
  split at h
  · contradiction
  · rename_i h0
    split at h
    · cases h
    · rename_i h1
      exact ⟨Classical.byContradiction h0, by omega, by omega⟩
structure Sq (m : List (List Po)) : Prop where
  hn : m.length ≤ 4
  row : ∀ i, i < m.length → (m.getD i []).length = m.length
  el : ∀ i j, i < m.length → j < m.length → elF ((m.getD i []).getD j (0, [])) = 0
theorem sqF_ok {m : List (List Po)} (h : sqF m = 0) : Sq m := by
  unfold sqF at h
  split at h
  · cases h
  rename_i h4
  have hr := fstE_ok h
  have hg : ∀ i, i < m.length → rowE m.length (m.getD i []) = 0 := fun i hi => hr _ (by rw [getD_lt [] hi]; exact List.getElem_mem hi)
  have hlen : ∀ i, i < m.length → (m.getD i []).length = m.length ∧ fstE elF (m.getD i []) = 0 := fun i hi => by
    have := hg i hi
    unfold rowE at this
    split at this
    · cases this
    · rename_i hh; exact ⟨Classical.byContradiction hh, this⟩
  exact ⟨by omega, fun i hi => (hlen i hi).1, fun i j hi hj => fstE_ok (hlen i hi).2 _ (by rw [getD_lt _ (show j < (m.getD i []).length by rw [(hlen i hi).1]; exact hj)]; exact List.getElem_mem _)⟩
theorem mM_sup {m : List (List Po)} (h : Sq m) (r c : Nat) : Sup ((40 : Nat) : Int) (mM m r c) := by
  unfold mM
  by_cases hr : r < m.length
  · by_cases hc : c < m.length
    · obtain ⟨_, h1, h2⟩ := elF_ok (h.el r c hr hc)
      exact lpo_sup (by omega)
    · rw [show (m.getD r []).getD c (0, []) = (0, []) by rw [List.getD_eq_getElem?_getD (l := m.getD r []), List.getElem?_eq_none (by rw [h.row r hr]; omega)]; rfl]
      exact lpo_sup (by simp)
  · rw [show m.getD r [] = [] by rw [List.getD_eq_getElem?_getD, List.getElem?_eq_none (by omega)]; rfl]
    exact lpo_sup (by simp)
theorem mM_mat {m : List (List Po)} (h : Sq m) : mat (mM m) (List.range m.length) (List.range m.length) = m := by
  unfold mat
  apply List.ext_getElem (by simp)
  intro i h1 h2
  rw [List.getElem_map, List.getElem_range]
  have hr := h.row i h2
  rw [getD_lt [] h2] at hr
  apply List.ext_getElem (by simp [hr])
  intro j h3 h4
  rw [List.getElem_map, List.getElem_range]
  have he := h.el i j h2 (by omega)
  unfold mM
  rw [getD_lt [] h2, getD_lt _ h4] at he ⊢
  obtain ⟨h5, _, _⟩ := elF_ok he
  obtain ⟨_, _, h6, h7⟩ := pF_ok h5
  exact poW_lpo h6 (fun x hx => by have := h7 x hx; unfold okc at this; unfold in64; omega)
/-- the determinant -/
noncomputable def dP (m : List (List Po)) : Po := poW (lapP (mM m) (List.range m.length) (List.range m.length))
/-- what Det returns -/
noncomputable def detP (m : List (List Po)) : Po := if sqF m = 0 then if pF (dP m) = 0 then dP m else (0, []) else (0, [])
noncomputable def detE (m : List (List Po)) : Int := if sqF m = 0 then if pF (dP m) = 0 then 0 else 2 else sqF m
set_option maxHeartbeats 4000000 in
set_option maxRecDepth 100000 in
theorem pdet_s (m : List (List Po)) : SC Try.prog 18 [ppss m] (.tup [ppo (detP m), pint (detE m)]) := by
  have kx : sqF m = 0 → SC Try.prog 40 [ppss m] (ppo (dP m)) := fun h0 => by
    have hs := sqF_ok h0
    have := expand_s (mM_sup hs) (by omega) (List.range m.length) (List.range m.length) rfl (by simp; have := hs.hn; omega)
    rwa [mM_mat hs] at this
  have kf := fit_s (dP m)
  unfold fitP at kf
  refine SC.go {} tok mixed Try.func18 rfl rfl Try.ntmps18 rfl rfl (by kernel_rfl) ?_
  first | simp only [updS] | simp only [updL, Nat.reduceAdd]
  repeat (first | refine S0 ?_ | refine S1 ?_ | refine S2 ?_ | refine S5 ?_ | refine S7 ?_ | refine S8 ?_ | refine S9 ?_ | refine S15 ?_ | refine S16 ?_ | refine S19 ?_ | refine S20 ?_ | refine S29 ?_ | refine S34 ?_ | refine S66 ?_ | refine S68 ?_ | refine S69 ?_)
  refine Scall (args := [ppss m]) (hc := by simp only [PV.cl.clL, ppss_cl, Bool.and_self]) (sqcheck_s m) ?_
  unfold detP detE
  by_cases h0 : sqF m = 0
  · rw [if_pos h0, if_pos h0, h0]
    repeat (first | refine S0 ?_ | refine S1 ?_ | refine S2 ?_ | refine S5 ?_ | refine S7 ?_ | refine S8 ?_ | refine S9 ?_ | refine S15 ?_ | refine S16 ?_ | refine S19 ?_ | refine S20 ?_ | refine S29 ?_ | refine S34 ?_ | refine S66 ?_ | refine S68 ?_ | refine S69 ?_)
    refine Scall (args := [ppss m]) (hc := by simp only [PV.cl.clL, ppss_cl, Bool.and_self]) (kx h0) ?_
    refine Scall (args := [ppo (dP m)]) kf ?_
    repeat (first | refine S0 ?_ | refine S1 ?_ | refine S2 ?_ | refine S5 ?_ | refine S7 ?_ | refine S8 ?_ | refine S9 ?_ | refine S15 ?_ | refine S16 ?_ | refine S19 ?_ | refine S20 ?_ | refine S29 ?_ | refine S34 ?_ | refine S66 ?_ | refine S68 ?_ | refine S69 ?_)
    exact ⟨.inr rfl, FR.cellTmp rfl HBx rfl rfl rfl (Fz.pair (.cl (by simp only [PV.cl, PV.cl.clL, pint_cl, pli_cl, Bool.and_self])) (.cl rfl))⟩
  · rw [if_neg h0, if_neg h0]
    repeat (first | refine S0 ?_ | refine S1 ?_ | refine S2 ?_ | refine S5 ?_ | refine S7 ?_ | refine S8 ?_ | refine S9 ?_ | refine S15 ?_ | refine S16 ?_ | refine S19 ?_ | refine S20 ?_ | refine S29 ?_ | refine S34 ?_ | refine S66 ?_ | refine S68 ?_ | refine S69 ?_)
    exact ⟨.inr rfl, FR.cellTmp rfl HBx rfl rfl rfl (Fz.pair (.nrm rfl) (.cl rfl))⟩
/-! ### the reference's matrix of terms -/
def tmM (m : List (List Po)) : List (List Tm) := m.map fun r => r.map spl
def mEx : List (List Po) := [[(1, [1]), (0, [1])], [(0, [1]), (1, [1])]]
end Go.Proofs.Ytenoiklocdoemaa

/- Burau matrices over the ring of Laurent polynomials: products, bounds, determinants. Plain facts: nothing of the program is here. -/
set_option linter.unusedVariables false
set_option linter.unusedSimpArgs false
namespace Go.Proofs.Ytenoiklocdoemaa

/-! ### letters -/
noncomputable def e00 (x : Int) : LP := if 0 < x then LP.mono 1 0 + LP.mono (-1) 1 else 0
noncomputable def e01 (x : Int) : LP := if 0 < x then LP.mono 1 1 else 1
noncomputable def e10 (x : Int) : LP := if 0 < x then 1 else LP.mono 1 (-1)
noncomputable def e11 (x : Int) : LP := if 0 < x then 0 else LP.mono 1 0 + LP.mono (-1) (-1)
noncomputable def unitM : Nat → Nat → LP := fun r c => if r = c then 1 else 0
/-- a matrix times the matrix of a letter -/
noncomputable def stepM (A : Nat → Nat → LP) (x : Int) : Nat → Nat → LP := fun r c =>
  if c + 1 = x.natAbs then A r (x.natAbs - 1) * e00 x + A r x.natAbs * e10 x else if c = x.natAbs then A r (x.natAbs - 1) * e01 x + A r x.natAbs * e11 x else A r c
noncomputable def burM (w : List Int) : Nat → Nat → LP := w.foldl stepM unitM
theorem burM_snoc (w : List Int) (x : Int) : burM (w ++ [x]) = stepM (burM w) x := by unfold burM; rw [List.foldl_append]; rfl
noncomputable def mmul (n : Nat) (A B : Nat → Nat → LP) : Nat → Nat → LP := fun r c => smP (List.range n) (fun j => A r j * B j c)
/-! ### supports -/
theorem e_sup (x : Int) : Sup 1 (e00 x) ∧ Sup 1 (e01 x) ∧ Sup 1 (e10 x) ∧ Sup 1 (e11 x) := by
  unfold e00 e01 e10 e11
  refine ⟨?_, ?_, ?_, ?_⟩ <;> split
  · exact (Sup.monom _ _ (by omega)).add (Sup.monom _ _ (by omega))
  · exact Sup.zero
  · exact Sup.monom _ _ (by omega)
  · exact Sup.one (by omega)
  · exact Sup.one (by omega)
  · exact Sup.monom _ _ (by omega)
  · exact Sup.zero
  · exact (Sup.monom _ _ (by omega)).add (Sup.monom _ _ (by omega))
theorem stepM_sup {k : Nat} {A : Nat → Nat → LP} (h : ∀ r c, Sup (k : Int) (A r c)) (x : Int) : ∀ r c, Sup ((k + 1 : Nat) : Int) (stepM A x r c) := fun r c => by
  obtain ⟨h1, h2, h3, h4⟩ := e_sup x
  unfold stepM
  split
  · exact (Sup.mul (C := 1) (h _ _) h1).add (Sup.mul (C := 1) (h _ _) h3)
  · split
    · exact (Sup.mul (C := 1) (h _ _) h2).add (Sup.mul (C := 1) (h _ _) h4)
    · exact (h r c).mono (by omega)
theorem unitM_sup (r c : Nat) : Sup ((0 : Nat) : Int) (unitM r c) := by
  unfold unitM
  split
  · exact Sup.one (by omega)
  · exact Sup.zero
theorem fold_sup : ∀ (w : List Int) (k : Nat) (A : Nat → Nat → LP), (∀ r c, Sup (k : Int) (A r c)) → ∀ r c, Sup ((k + w.length : Nat) : Int) (w.foldl stepM A r c)
  | [], k, A, h, r, c => h r c
  | x :: w, k, A, h, r, c => by
    have := fold_sup w (k + 1) (stepM A x) (stepM_sup h x) r c
    rw [show k + (x :: w).length = k + 1 + w.length by simp; omega]
    exact this
theorem burM_sup (w : List Int) (r c : Nat) : Sup (w.length : Int) (burM w r c) := by
  have := fold_sup w 0 unitM unitM_sup r c
  rwa [Nat.zero_add] at this
/-! ### determinants -/
theorem LP.smul_neg (k : Int) (a : LP) : LP.smul (-k) a = -(LP.smul k a) := LP.ext fun e => by rw [LP.neg_f, LP.smul_f, LP.smul_f, Int.neg_mul]
theorem det2 (Ma Mb Da Db e f g k : LP) : (Ma * e + Mb * g) * (Da * f + Db * k) + -((Ma * f + Mb * k) * (Da * e + Db * g)) = (Ma * Db + -(Mb * Da)) * (e * k + -(f * g)) := by
  have h1 : Ma * e * (Da * f) = Ma * f * (Da * e) := by ac_rfl
  have h2 : Mb * g * (Db * k) = Mb * k * (Db * g) := by ac_rfl
  have h3 : Ma * e * (Db * k) = Ma * Db * (e * k) := by ac_rfl
  have h4 : Mb * g * (Da * f) = Mb * Da * (f * g) := by ac_rfl
  have h5 : Ma * f * (Db * g) = Ma * Db * (f * g) := by ac_rfl
  have h6 : Mb * k * (Da * e) = Mb * Da * (e * k) := by ac_rfl
  simp only [LP.add_mul, LP.mul_add, LP.neg_mul, LP.mul_neg, LP.neg_neg, h1, h2, h3, h4, h5, h6]
  apply LP.ext
  intro x
  simp only [LP.add_f, LP.neg_f]
  omega
theorem lapP_congr {M M' : Nat → Nat → LP} : ∀ (rs cs : List Nat), (∀ r c, r ∈ rs → c ∈ cs → M r c = M' r c) → lapP M rs cs = lapP M' rs cs
  | [], _, _ => rfl
  | r :: rs, cs, h => by
    have key : ∀ (b : List Nat) (j : Nat) (a : List Nat), (∀ x ∈ a, x ∈ cs) → (∀ x ∈ b, x ∈ cs) → altsP (fun c rest => M r c * lapP M rs rest) j a b = altsP (fun c rest => M' r c * lapP M' rs rest) j a b := by
      intro b
      induction b with
      | nil => intro j a _ _; rfl
      | cons x b ih =>
        intro j a ha hb
        simp only [altsP]
        rw [h r x (by simp) (hb x (by simp)), lapP_congr rs (a ++ b) (fun r' c hr hc => h r' c (by simp [hr]) (by
          rcases List.mem_append.1 hc with hc | hc
          · exact ha c hc
          · exact hb c (by simp [hc])))]
        rw [ih (j + 1) (a ++ [x]) (fun y hy => by
          rcases List.mem_append.1 hy with hy | hy
          · exact ha y hy
          · rw [List.mem_singleton] at hy; rw [hy]; exact hb x (by simp)) (fun y hy => hb y (by simp [hy]))]
    exact key cs 0 [] (fun x hx => by cases hx) (fun x hx => hx)
/-- the determinant is linear in a column -/
theorem lapP_lin {M M' : Nat → Nat → LP} {c a b : Nat} {u v : LP} : ∀ (rs pre post : List Nat), rs.length = pre.length + post.length + 1 → (∀ r x, x ∈ pre ++ post → M' r x = M r x) → (∀ r, M' r c = M r a * u + M r b * v) →
    lapP M' rs (pre ++ c :: post) = lapP M rs (pre ++ a :: post) * u + lapP M rs (pre ++ b :: post) * v
  | [], pre, post, hl, _, _ => by simp at hl
  | r :: rs, pre, post, hl, hM, hc => by
    -- after the column
    have after : ∀ (q : List Nat) (j : Nat) (p1 p2 : List Nat), p1.length + p2.length + q.length = pre.length + post.length → (∀ x ∈ p1 ++ p2 ++ q, x ∈ pre ++ post) →
        altsP (fun c rest => M' r c * lapP M' rs rest) j (p1 ++ c :: p2) q = altsP (fun c rest => M r c * lapP M rs rest) j (p1 ++ a :: p2) q * u + altsP (fun c rest => M r c * lapP M rs rest) j (p1 ++ b :: p2) q * v := by
      intro q
      induction q with
      | nil => intro j p1 p2 _ _; simp only [altsP, LP.zero_mul, LP.add_zero]
      | cons x q ih =>
        intro j p1 p2 h1 h2
        have e1 := lapP_lin (M := M) (M' := M') (c := c) (a := a) (b := b) (u := u) (v := v) rs p1 (p2 ++ q) (by simp at hl h1 ⊢; omega) (fun r y hy => hM r y (h2 y (by
          simp only [List.mem_append, List.mem_cons] at hy ⊢
          rcases hy with hy | hy | hy
          · exact .inl (.inl hy)
          · exact .inl (.inr hy)
          · exact .inr (.inr hy)))) hc
        have e2 := ih (j + 1) p1 (p2 ++ [x]) (by simp at h1 ⊢; omega) (fun y hy => h2 y (by
          simp only [List.mem_append, List.mem_cons, List.not_mem_nil, or_false] at hy ⊢
          rcases hy with (hy | hy | hy) | hy
          · exact .inl (.inl hy)
          · exact .inl (.inr hy)
          · exact .inr (.inl hy)
          · exact .inr (.inr hy)))
        simp only [altsP, List.append_assoc, List.cons_append]
        rw [e1, e2, hM r x (h2 x (by simp)), LP.mul_add, LP.smul_add, LP.add_mul, LP.add_mul, ← LP.mul_assoc, ← LP.mul_assoc, LP.smul_mul, LP.smul_mul]
        ac_rfl
    have before : ∀ (q : List Nat) (j : Nat) (p : List Nat), p.length + q.length = pre.length → (∀ x ∈ p ++ q, x ∈ pre ++ post) →
        altsP (fun c rest => M' r c * lapP M' rs rest) j p (q ++ c :: post) = altsP (fun c rest => M r c * lapP M rs rest) j p (q ++ a :: post) * u + altsP (fun c rest => M r c * lapP M rs rest) j p (q ++ b :: post) * v := by
      intro q
      induction q with
      | nil =>
        intro j p h1 h2
        have hp : ∀ x ∈ p ++ post, x ∈ pre ++ post := fun x hx => by
          rcases List.mem_append.1 hx with hx | hx
          · exact h2 x (by simp [hx])
          · simp [hx]
        have e2 := after post (j + 1) p [] (by simp at h1 ⊢; omega) (fun x hx => hp x (by simpa using hx))
        have e3 := lapP_congr (M := M') (M' := M) rs (p ++ post) (fun r' y _ hy => hM r' y (hp y hy))
        simp only [List.nil_append, altsP]
        rw [e2, e3, hc r, LP.add_mul, LP.smul_add, LP.add_mul, LP.add_mul, LP.smul_mul, LP.smul_mul]
        rw [show M r a * u * lapP M rs (p ++ post) = M r a * lapP M rs (p ++ post) * u by ac_rfl, show M r b * v * lapP M rs (p ++ post) = M r b * lapP M rs (p ++ post) * v by ac_rfl]
        ac_rfl
      | cons x q ih =>
        intro j p h1 h2
        have e1 := lapP_lin (M := M) (M' := M') (c := c) (a := a) (b := b) (u := u) (v := v) rs (p ++ q) post (by simp at hl h1 ⊢; omega) (fun r y hy => hM r y (by
          simp only [List.mem_append] at hy
          rcases hy with (hy | hy) | hy
          · exact h2 y (by simp [hy])
          · exact h2 y (by simp [hy])
          · simp [hy])) hc
        have e2 := ih (j + 1) (p ++ [x]) (by simp at h1 ⊢; omega) (fun y hy => h2 y (by
          simp only [List.mem_append, List.mem_cons, List.not_mem_nil, or_false] at hy ⊢
          rcases hy with (hy | hy) | hy
          · exact .inl hy
          · exact .inr (.inl hy)
          · exact .inr (.inr hy)))
        simp only [altsP, List.cons_append]
        simp only [List.append_assoc] at e1
        rw [e1, e2, hM r x (h2 x (by simp)), LP.mul_add, LP.smul_add, LP.add_mul, LP.add_mul, ← LP.mul_assoc, ← LP.mul_assoc, LP.smul_mul, LP.smul_mul]
        ac_rfl
    exact before pre 0 [] (by simp) (fun x hx => by simp at hx; simp [hx])
end Go.Proofs.Ytenoiklocdoemaa
