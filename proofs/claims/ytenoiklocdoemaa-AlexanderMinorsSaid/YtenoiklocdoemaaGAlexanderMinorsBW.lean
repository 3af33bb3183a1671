/- Normal forms of polynomials and values at -1, modulo 2^64: of the program and of the reference. No condition of its own. -/
import Derived.Test.YtenoiklocdoemaaGAlexanderMinorsBV
import Derived.Test.YtenoiklocdoemaaGAlexanderMinorsBD
import Derived.Test.YtenoiklocdoemaaGAlexanderMinorsBK
set_option linter.unusedVariables false
set_option linter.unusedSimpArgs false
namespace Go.Proofs.Ytenoiklocdoemaa
open Go.RowKit

def sgW (p : Po) : Int := if 0 < p.2.length ∧ p.2.getD (p.2.length - 1) 0 < 0 then -1 else 1
def nrmW (p : Po) : Po := (0, p.2.map fun x => wrp (sgW p * x))
theorem sgW_ne (p : Po) : sgW p = 1 ∨ sgW p = -1 := by unfold sgW; split <;> simp
theorem wrp0 : wrp 0 = 0 := wrp_in (by unfold in64; omega)
theorem wrp_ne {s x : Int} (hs : s = 1 ∨ s = -1) (h : in64 x) (h0 : x ≠ 0) : wrp (s * x) ≠ 0 := fun e => by
  obtain ⟨k, hk⟩ := wrp_ex (s * x)
  rw [e] at hk
  unfold in64 at h
  rcases hs with rfl | rfl <;> omega
theorem getD_map0 {g : Int → Int} (hg : g 0 = 0) (c : List Int) (k : Nat) : (c.map g).getD k 0 = g (c.getD k 0) := by
  by_cases h : k < c.length
  · simp [List.getD, h]
  · simp [List.getD, h, hg]
theorem co_map {g : Int → Int} (hg : g 0 = 0) (c : List Int) (e : Int) : co (0, c.map g) e = g (co (0, c) e) := by
  by_cases h1 : e < 0
  · rw [co_lo (by simpa using h1), co_lo (by simpa using h1), hg]
  · obtain ⟨k, rfl⟩ : ∃ k : Nat, e = (k : Int) := ⟨e.toNat, by omega⟩
    have a1 := co_at (0, c.map g) k
    have a2 := co_at (0, c) k
    simp only [Int.zero_add] at a1 a2
    rw [a1, a2, getD_map0 hg]
theorem canon0 {p : Po} (h : canon p) : canon (0, p.2) := h.elim (fun h => .inl ⟨h.1, rfl⟩) .inr
theorem nrmW_canon {p : Po} (h : canon p) (h64 : ∀ x ∈ p.2, in64 x) : canon (nrmW p) := by
  rcases h with ⟨h1, _⟩ | ⟨h1, h2, h3⟩
  · exact .inl ⟨by simp [nrmW, h1], rfl⟩
  · have hg : wrp (sgW p * 0) = 0 := by rw [Int.mul_zero]; exact wrp0
    have hl : 0 < p.2.length := List.length_pos_iff.2 h1
    refine .inr ⟨by simpa [nrmW] using h1, ?_, ?_⟩
    · show (p.2.map _).getD 0 0 ≠ 0
      rw [getD_map0 hg]
      exact wrp_ne (sgW_ne p) (h64 _ (by rw [getD_lt 0 hl]; exact List.getElem_mem _)) h2
    · show (p.2.map _).getD ((p.2.map _).length - 1) 0 ≠ 0
      rw [getD_map0 hg, List.length_map]
      exact wrp_ne (sgW_ne p) (h64 _ (by rw [getD_lt 0 (by omega)]; exact List.getElem_mem _)) h3
theorem nrmW_eq {p : Po} (h : canon p) (h64 : ∀ x ∈ p.2, in64 x) : poW (lpo (0, p.2) * LP.mono (sgW p) 0) = nrmW p := by
  refine cano_eq (nrmW_canon h h64) (fun e => ?_)
  rw [LP.mul_comm, LP.mono_mul, Int.sub_zero]
  unfold nrmW
  rw [co_map (g := fun x => wrp (sgW p * x)) (by simp only [Int.mul_zero]; exact wrp0)]
  rfl
theorem poW_64 (a : LP) : ∀ x ∈ (poW a).2, in64 x := fun x hx => by
  obtain ⟨k, hk, rfl⟩ := List.mem_iff_getElem.1 hx
  have h1 := poW_co a ((poW a).1 + k)
  rw [co_at, getD_lt 0 hk] at h1
  rw [h1]; exact wrp_64 _
theorem nrmW_one {p : Po} (h : sgW p = 1) (h64 : ∀ x ∈ p.2, in64 x) : nrmW p = (0, p.2) := by
  unfold nrmW; rw [h]
  congr 1
  rw [show p.2 = p.2.map id by simp]
  rw [List.map_map]
  refine List.map_congr_left (fun x hx => ?_)
  simp only [Function.comp, id, Int.one_mul]
  exact wrp_in (h64 x (by simpa using hx))
set_option maxHeartbeats 4000000 in
set_option maxRecDepth 100000 in
theorem normalW_s {p : Po} (hcan : canon p) (h64 : ∀ x ∈ p.2, in64 x) (hl : p.2.length ≤ 3000) (hlo : -1000000 ≤ p.1 ∧ p.1 ≤ 1000000) : SC Try.prog 46 [ppo p] (ppo (nrmW p)) := by
  have hs := sgW_ne p
  have k1 := termW_s (sgW p) 0 (by unfold in64; omega) (by omega)
  have k2 := timesW_s (lpo (0, p.2)) (LP.mono (sgW p) 0) (lpo_sup (by simp; omega)) (Sup.monom _ _ (by omega))
  rw [nrmW_eq hcan h64, poW_lpo (canon0 hcan) h64] at k2
  have hsd : sgW p = if 0 < p.2.length ∧ p.2.getD (p.2.length - 1) 0 < 0 then -1 else 1 := rfl
  obtain ⟨P2, hP2⟩ : ∃ P2, P2 = nrmW p := ⟨_, rfl⟩
  rw [← hP2] at k2 ⊢
  obtain ⟨P3, hP3⟩ : ∃ P3, P3 = poW (LP.mono (sgW p) 0) := ⟨_, rfl⟩
  rw [← hP3] at k1 k2
  clear hP2 hP3
  generalize sgW p = s at *
  obtain ⟨l, c⟩ := p
  obtain ⟨l2, c2⟩ := P2
  obtain ⟨l3, c3⟩ := P3
  simp only at hl hlo hsd k2
  refine SC.go {} tok mixed Try.func46 rfl rfl Try.ntmps46 rfl rfl (by kernel_rfl) ?_
  first | simp only [updS] | simp only [updL, Nat.reduceAdd]
  have e1 : ((c.length : Int) - 1).toNat = c.length - 1 := by omega
  rw [← e1] at hsd
  by_cases h1 : 0 < c.length
  · by_cases h2 : c.getD ((c.length : Int) - 1).toNat 0 < 0
    · rw [if_pos ⟨h1, h2⟩] at hsd
      subst hsd
      repeat (first | refine S0 ?_ | refine S1 ?_ | refine S2 ?_ | refine S3 ?_ | refine S4 ?_ | refine S5 ?_ | refine S6 ?_ | refine S7 ?_ | refine S8 ?_ | refine S10 ?_ | refine S11 ?_ | refine S13 ?_ | refine S15 ?_ | refine S16 ?_ | refine S19 ?_ | refine S20 ?_ | refine S21 ?_ | refine S22 ?_ | refine S23 ?_ | refine S24 ?_ | refine S25 ?_ | refine S26 ?_ | refine S27 ?_ | refine S29 ?_ | refine S30 ?_ | refine S33 ?_ | refine S37 ?_ | refine S38 ?_ | refine S40 ?_ | refine S41 ?_ | refine S43 ?_ | refine S44 ?_ | refine S45 ?_ | refine S46 ?_ | refine S48 ?_ | refine S53 ?_ | refine S65 ?_ | refine S66 ?_ | refine S68 ?_ | refine S69 ?_)
      refine Scall (args := [pint (-1), pint 0]) k1 ?_
      repeat (first | refine S0 ?_ | refine S1 ?_ | refine S2 ?_ | refine S3 ?_ | refine S4 ?_ | refine S5 ?_ | refine S6 ?_ | refine S7 ?_ | refine S8 ?_ | refine S10 ?_ | refine S11 ?_ | refine S13 ?_ | refine S15 ?_ | refine S16 ?_ | refine S19 ?_ | refine S20 ?_ | refine S21 ?_ | refine S22 ?_ | refine S23 ?_ | refine S24 ?_ | refine S25 ?_ | refine S26 ?_ | refine S27 ?_ | refine S29 ?_ | refine S30 ?_ | refine S33 ?_ | refine S37 ?_ | refine S38 ?_ | refine S40 ?_ | refine S41 ?_ | refine S43 ?_ | refine S44 ?_ | refine S45 ?_ | refine S46 ?_ | refine S48 ?_ | refine S53 ?_ | refine S65 ?_ | refine S66 ?_ | refine S68 ?_ | refine S69 ?_)
      refine Scall (args := [ppo (0, c), ppo (l3, c3)]) k2 ?_
      repeat (first | refine S0 ?_ | refine S1 ?_ | refine S2 ?_ | refine S3 ?_ | refine S4 ?_ | refine S5 ?_ | refine S6 ?_ | refine S7 ?_ | refine S8 ?_ | refine S10 ?_ | refine S11 ?_ | refine S13 ?_ | refine S15 ?_ | refine S16 ?_ | refine S19 ?_ | refine S20 ?_ | refine S21 ?_ | refine S22 ?_ | refine S23 ?_ | refine S24 ?_ | refine S25 ?_ | refine S26 ?_ | refine S27 ?_ | refine S29 ?_ | refine S30 ?_ | refine S33 ?_ | refine S37 ?_ | refine S38 ?_ | refine S40 ?_ | refine S41 ?_ | refine S43 ?_ | refine S44 ?_ | refine S45 ?_ | refine S46 ?_ | refine S48 ?_ | refine S53 ?_ | refine S65 ?_ | refine S66 ?_ | refine S68 ?_ | refine S69 ?_)
      exact ⟨.inr rfl, FR.cell1 rfl HBx rfl rfl (.cl (by simp only [PV.cl, PV.cl.clL, pint_cl, pli_cl, Bool.and_self]))⟩
    · rw [if_neg (fun hh => h2 hh.2)] at hsd
      subst hsd
      repeat (first | refine S0 ?_ | refine S1 ?_ | refine S2 ?_ | refine S3 ?_ | refine S4 ?_ | refine S5 ?_ | refine S6 ?_ | refine S7 ?_ | refine S8 ?_ | refine S10 ?_ | refine S11 ?_ | refine S13 ?_ | refine S15 ?_ | refine S16 ?_ | refine S19 ?_ | refine S20 ?_ | refine S21 ?_ | refine S22 ?_ | refine S23 ?_ | refine S24 ?_ | refine S25 ?_ | refine S26 ?_ | refine S27 ?_ | refine S29 ?_ | refine S30 ?_ | refine S33 ?_ | refine S37 ?_ | refine S38 ?_ | refine S40 ?_ | refine S41 ?_ | refine S43 ?_ | refine S44 ?_ | refine S45 ?_ | refine S46 ?_ | refine S48 ?_ | refine S53 ?_ | refine S65 ?_ | refine S66 ?_ | refine S68 ?_ | refine S69 ?_)
      refine Scall (args := [pint 1, pint 0]) k1 ?_
      repeat (first | refine S0 ?_ | refine S1 ?_ | refine S2 ?_ | refine S3 ?_ | refine S4 ?_ | refine S5 ?_ | refine S6 ?_ | refine S7 ?_ | refine S8 ?_ | refine S10 ?_ | refine S11 ?_ | refine S13 ?_ | refine S15 ?_ | refine S16 ?_ | refine S19 ?_ | refine S20 ?_ | refine S21 ?_ | refine S22 ?_ | refine S23 ?_ | refine S24 ?_ | refine S25 ?_ | refine S26 ?_ | refine S27 ?_ | refine S29 ?_ | refine S30 ?_ | refine S33 ?_ | refine S37 ?_ | refine S38 ?_ | refine S40 ?_ | refine S41 ?_ | refine S43 ?_ | refine S44 ?_ | refine S45 ?_ | refine S46 ?_ | refine S48 ?_ | refine S53 ?_ | refine S65 ?_ | refine S66 ?_ | refine S68 ?_ | refine S69 ?_)
      refine Scall (args := [ppo (0, c), ppo (l3, c3)]) k2 ?_
      repeat (first | refine S0 ?_ | refine S1 ?_ | refine S2 ?_ | refine S3 ?_ | refine S4 ?_ | refine S5 ?_ | refine S6 ?_ | refine S7 ?_ | refine S8 ?_ | refine S10 ?_ | refine S11 ?_ | refine S13 ?_ | refine S15 ?_ | refine S16 ?_ | refine S19 ?_ | refine S20 ?_ | refine S21 ?_ | refine S22 ?_ | refine S23 ?_ | refine S24 ?_ | refine S25 ?_ | refine S26 ?_ | refine S27 ?_ | refine S29 ?_ | refine S30 ?_ | refine S33 ?_ | refine S37 ?_ | refine S38 ?_ | refine S40 ?_ | refine S41 ?_ | refine S43 ?_ | refine S44 ?_ | refine S45 ?_ | refine S46 ?_ | refine S48 ?_ | refine S53 ?_ | refine S65 ?_ | refine S66 ?_ | refine S68 ?_ | refine S69 ?_)
      exact ⟨.inr rfl, FR.cell1 rfl HBx rfl rfl (.cl (by simp only [PV.cl, PV.cl.clL, pint_cl, pli_cl, Bool.and_self]))⟩
  · rw [if_neg (fun hh => h1 hh.1)] at hsd
    subst hsd
    repeat (first | refine S0 ?_ | refine S1 ?_ | refine S2 ?_ | refine S3 ?_ | refine S4 ?_ | refine S5 ?_ | refine S6 ?_ | refine S7 ?_ | refine S8 ?_ | refine S10 ?_ | refine S11 ?_ | refine S13 ?_ | refine S15 ?_ | refine S16 ?_ | refine S19 ?_ | refine S20 ?_ | refine S21 ?_ | refine S22 ?_ | refine S23 ?_ | refine S24 ?_ | refine S25 ?_ | refine S26 ?_ | refine S27 ?_ | refine S29 ?_ | refine S30 ?_ | refine S33 ?_ | refine S37 ?_ | refine S38 ?_ | refine S40 ?_ | refine S41 ?_ | refine S43 ?_ | refine S44 ?_ | refine S45 ?_ | refine S46 ?_ | refine S48 ?_ | refine S53 ?_ | refine S65 ?_ | refine S66 ?_ | refine S68 ?_ | refine S69 ?_)
    refine Scall (args := [pint 1, pint 0]) k1 ?_
    repeat (first | refine S0 ?_ | refine S1 ?_ | refine S2 ?_ | refine S3 ?_ | refine S4 ?_ | refine S5 ?_ | refine S6 ?_ | refine S7 ?_ | refine S8 ?_ | refine S10 ?_ | refine S11 ?_ | refine S13 ?_ | refine S15 ?_ | refine S16 ?_ | refine S19 ?_ | refine S20 ?_ | refine S21 ?_ | refine S22 ?_ | refine S23 ?_ | refine S24 ?_ | refine S25 ?_ | refine S26 ?_ | refine S27 ?_ | refine S29 ?_ | refine S30 ?_ | refine S33 ?_ | refine S37 ?_ | refine S38 ?_ | refine S40 ?_ | refine S41 ?_ | refine S43 ?_ | refine S44 ?_ | refine S45 ?_ | refine S46 ?_ | refine S48 ?_ | refine S53 ?_ | refine S65 ?_ | refine S66 ?_ | refine S68 ?_ | refine S69 ?_)
    refine Scall (args := [ppo (0, c), ppo (l3, c3)]) k2 ?_
    repeat (first | refine S0 ?_ | refine S1 ?_ | refine S2 ?_ | refine S3 ?_ | refine S4 ?_ | refine S5 ?_ | refine S6 ?_ | refine S7 ?_ | refine S8 ?_ | refine S10 ?_ | refine S11 ?_ | refine S13 ?_ | refine S15 ?_ | refine S16 ?_ | refine S19 ?_ | refine S20 ?_ | refine S21 ?_ | refine S22 ?_ | refine S23 ?_ | refine S24 ?_ | refine S25 ?_ | refine S26 ?_ | refine S27 ?_ | refine S29 ?_ | refine S30 ?_ | refine S33 ?_ | refine S37 ?_ | refine S38 ?_ | refine S40 ?_ | refine S41 ?_ | refine S43 ?_ | refine S44 ?_ | refine S45 ?_ | refine S46 ?_ | refine S48 ?_ | refine S53 ?_ | refine S65 ?_ | refine S66 ?_ | refine S68 ?_ | refine S69 ?_)
    exact ⟨.inr rfl, FR.cell1 rfl HBx rfl rfl (.cl (by simp only [PV.cl, PV.cl.clL, pint_cl, pli_cl, Bool.and_self]))⟩
set_option maxHeartbeats 8000000 in
set_option maxRecDepth 100000 in
theorem rnormalW_s {f : Tm} {p : Po} (hp : cano (tv f) = p) (hcan : canon p) (h64 : ∀ x ∈ p.2, in64 x) (hl : p.2.length ≤ 3000) (hf : ∀ e, (f e).isSome = true → -(4000 : Int) ≤ e ∧ e ≤ 4000) : SC Try.prog 24 [.fmap (mi f)] (ppo (nrmW p)) := by
  have k1 := fun h0 : HP => poly_e (h0 := h0) f 4000 (by omega) hf
  rw [hp] at k1
  have hsd : sgW p = if 0 < p.2.length ∧ p.2.getD (p.2.length - 1) 0 < 0 then -1 else 1 := rfl
  have hn1 := fun h => nrmW_one (p := p) h h64
  have hnd : nrmW p = (0, p.2.map fun x => wrp (sgW p * x)) := rfl
  clear hp hf hcan h64
  refine SC.go {} tok mixed Try.func24 rfl rfl Try.ntmps24 rfl rfl (by kernel_rfl) ?_
  first | simp only [updS] | simp only [updL, Nat.reduceAdd]
  repeat (first | refine S0 ?_ | refine S1 ?_ | refine S2 ?_ | refine S3 ?_ | refine S4 ?_ | refine S5 ?_ | refine S6 ?_ | refine S7 ?_ | refine S8 ?_ | refine S10 ?_ | refine S11 ?_ | refine S13 ?_ | refine S15 ?_ | refine S16 ?_ | refine S19 ?_ | refine S20 ?_ | refine S21 ?_ | refine S22 ?_ | refine S23 ?_ | refine S24 ?_ | refine S25 ?_ | refine S26 ?_ | refine S27 ?_ | refine S29 ?_ | refine S30 ?_ | refine S33 ?_ | refine S37 ?_ | refine S38 ?_ | refine S40 ?_ | refine S41 ?_ | refine S43 ?_ | refine S44 ?_ | refine S45 ?_ | refine S46 ?_ | refine S48 ?_ | refine S53 ?_ | refine S65 ?_ | refine S66 ?_ | refine S68 ?_ | refine S69 ?_)
  refine Scalle (args := [.fmap (mi f)]) (k1 _) ?_
  rintro r h' ⟨⟨hP, rfl⟩ | ⟨tk, ⟨ht, ht2⟩, rfl, hB⟩, hFr⟩
  · subst hP
    have hb1 := hFr.get (t := 1) (cs := [pint 0, .lst true 0 0 []]) (by first | omega | (simp only [HP.tokF, HP.tokT, HP.next_add, HP.next_set, HP.next_kill, HP.next_H0, HP.next_addS, HP.next_setS, HP.next_killS, HP.next_put, HP.next_bump, HP.next_putS]; omega)) (by simp) HBx
    have hN : 1 ≤ h'.next := by have := hFr.next; simpa only [HP.next_add, HP.next_H0] using this
    rw [hn1 (by rw [hsd]; simp)]
    repeat (first | refine S0 ?_ | refine S1 ?_ | refine S2 ?_ | refine S3 ?_ | refine S4 ?_ | refine S5 ?_ | refine S6 ?_ | refine S7 ?_ | refine S8 ?_ | refine S10 ?_ | refine S11 ?_ | refine S13 ?_ | refine S15 ?_ | refine S16 ?_ | refine S19 ?_ | refine S20 ?_ | refine S21 ?_ | refine S22 ?_ | refine S23 ?_ | refine S24 ?_ | refine S25 ?_ | refine S26 ?_ | refine S27 ?_ | refine S29 ?_ | refine S30 ?_ | refine S33 ?_ | refine S37 ?_ | refine S38 ?_ | refine S40 ?_ | refine S41 ?_ | refine S43 ?_ | refine S44 ?_ | refine S45 ?_ | refine S46 ?_ | refine S48 ?_ | refine S53 ?_ | refine S65 ?_ | refine S66 ?_ | refine S68 ?_ | refine S69 ?_)
    exact ⟨.inr rfl, FR.cell1 rfl HBx rfl rfl (.nrm rfl)⟩
  · have hb1 := hFr.get (t := 1) (cs := [pint 0, .lst true 0 0 []]) (by first | omega | (simp only [HP.tokF, HP.tokT, HP.next_add, HP.next_set, HP.next_kill, HP.next_H0, HP.next_addS, HP.next_setS, HP.next_killS, HP.next_put, HP.next_bump, HP.next_putS]; omega)) (by simp) HBx
    have hN : 1 ≤ h'.next := by have := hFr.next; simpa only [HP.next_add, HP.next_H0] using this
    simp only [HP.next_add, HP.next_H0] at ht
    obtain ⟨l, c⟩ := p
    simp only at hl hB hsd hn1 hnd ⊢
    have e1 : ((c.length : Int) - 1).toNat = c.length - 1 := by omega
    rw [← e1] at hsd
    have fz : ∀ (hh : HP) (zs : List Int), hh.blk tk = some (ints zs) → zs.length = c.length → Fz hh (.agg [pint 0, .ref tk 0 1 c.length]) (ppo (0, zs)) := fun hh zs hz hzl => Fz.agg2 (.cl rfl) (Fz.refI hz hzl.symm rfl)
    by_cases h1 : 0 < c.length
    · by_cases h2 : c.getD ((c.length : Int) - 1).toNat 0 < 0
      · rw [if_pos ⟨h1, h2⟩] at hsd
        rw [hnd, hsd]
        repeat (first | refine S0 ?_ | refine S1 ?_ | refine S2 ?_ | refine S3 ?_ | refine S4 ?_ | refine S5 ?_ | refine S6 ?_ | refine S7 ?_ | refine S8 ?_ | refine S10 ?_ | refine S11 ?_ | refine S13 ?_ | refine S15 ?_ | refine S16 ?_ | refine S19 ?_ | refine S20 ?_ | refine S21 ?_ | refine S22 ?_ | refine S23 ?_ | refine S24 ?_ | refine S25 ?_ | refine S26 ?_ | refine S27 ?_ | refine S29 ?_ | refine S30 ?_ | refine S33 ?_ | refine S37 ?_ | refine S38 ?_ | refine S40 ?_ | refine S41 ?_ | refine S43 ?_ | refine S44 ?_ | refine S45 ?_ | refine S46 ?_ | refine S48 ?_ | refine S53 ?_ | refine S65 ?_ | refine S66 ?_ | refine S68 ?_ | refine S69 ?_)
        refine CW.loopS (fun i : Nat × List Int => i.1 ≤ c.length ∧ i.2.length = c.length ∧ ∀ q, q < c.length → i.2.getD q 0 = if q < i.1 then wrp (-(c.getD q 0)) else c.getD q 0) (fun i => [(2, .ptr 1 0), (3, .ptr (2 * h'.next + 1) 0), (25, pint c.length), (26, pint i.1)])
          (fun i hp => hp.blk 1 = some [pint 0, .lst true 0 0 []] ∧ hp.blk (2 * h'.next + 1) = some [pint 0, .ref tk 0 1 c.length] ∧ hp.blk tk = some (ints i.2)) (fun i => c.length - i.1) (0, c) ⟨⟨Nat.zero_le _, rfl, fun q hq => by simp⟩, SLx, ⟨HBx, HBx, HBx⟩⟩ ?_
        rintro ⟨k, zs⟩ t hp ⟨g1, g2, g3⟩ ⟨q1, q2, q3⟩
        simp only at g1 g2 g3 q3
        first | simp only [updS] | simp only [updL, Nat.reduceAdd]
        by_cases hk : k < c.length
        · have gk := g3 k hk
          rw [if_neg (by omega)] at gk
          repeat (first | refine S0 ?_ | refine S1 ?_ | refine S2 ?_ | refine S3 ?_ | refine S4 ?_ | refine S5 ?_ | refine S6 ?_ | refine S7 ?_ | refine S8 ?_ | refine S10 ?_ | refine S11 ?_ | refine S13 ?_ | refine S15 ?_ | refine S16 ?_ | refine S19 ?_ | refine S20 ?_ | refine S21 ?_ | refine S22 ?_ | refine S23 ?_ | refine S24 ?_ | refine S25 ?_ | refine S26 ?_ | refine S27 ?_ | refine S29 ?_ | refine S30 ?_ | refine S33 ?_ | refine S37 ?_ | refine S38 ?_ | refine S40 ?_ | refine S41 ?_ | refine S43 ?_ | refine S44 ?_ | refine S45 ?_ | refine S46 ?_ | refine S48 ?_ | refine S53 ?_ | refine S65 ?_ | refine S66 ?_ | refine S68 ?_ | refine S69 ?_)
          refine AW.negV EVx ?_
          repeat (first | refine S0 ?_ | refine S1 ?_ | refine S2 ?_ | refine S3 ?_ | refine S4 ?_ | refine S5 ?_ | refine S6 ?_ | refine S7 ?_ | refine S8 ?_ | refine S10 ?_ | refine S11 ?_ | refine S13 ?_ | refine S15 ?_ | refine S16 ?_ | refine S19 ?_ | refine S20 ?_ | refine S21 ?_ | refine S22 ?_ | refine S23 ?_ | refine S24 ?_ | refine S25 ?_ | refine S26 ?_ | refine S27 ?_ | refine S29 ?_ | refine S30 ?_ | refine S33 ?_ | refine S37 ?_ | refine S38 ?_ | refine S40 ?_ | refine S41 ?_ | refine S43 ?_ | refine S44 ?_ | refine S45 ?_ | refine S46 ?_ | refine S48 ?_ | refine S53 ?_ | refine S65 ?_ | refine S66 ?_ | refine S68 ?_ | refine S69 ?_)
          refine ⟨(k + 1, zs.set k (wrp (-(zs.getD k 0)))), ⟨by simp only; omega, by simpa using g2, fun q hq => ?_⟩, SLx, ⟨HBx, HBx, HBx⟩, by simp only; omega⟩
          simp only
          by_cases e : q = k
          · subst e
            rw [if_pos (by omega), getD_lt 0 (by simp; omega), List.getElem_set_self, gk]
          · rw [getD_lt 0 (by simp; omega), List.getElem_set_ne (fun h => e h.symm), ← getD_lt 0 (by omega), g3 q hq]
            by_cases c1 : q < k
            · rw [if_pos c1, if_pos (by omega)]
            · rw [if_neg c1, if_neg (by omega)]
        · obtain rfl : k = c.length := by omega
          have hz : zs = c.map (fun x => wrp ((-1) * x)) := by
            apply List.ext_getElem
            · simp [g2]
            · intro q r1 r2
              have := g3 q (by omega)
              rw [getD_lt 0 r1, if_pos (by omega), getD_lt 0 (by omega)] at this
              rw [this]; simp
          rw [← hz]
          repeat (first | refine S0 ?_ | refine S1 ?_ | refine S2 ?_ | refine S3 ?_ | refine S4 ?_ | refine S5 ?_ | refine S6 ?_ | refine S7 ?_ | refine S8 ?_ | refine S10 ?_ | refine S11 ?_ | refine S13 ?_ | refine S15 ?_ | refine S16 ?_ | refine S19 ?_ | refine S20 ?_ | refine S21 ?_ | refine S22 ?_ | refine S23 ?_ | refine S24 ?_ | refine S25 ?_ | refine S26 ?_ | refine S27 ?_ | refine S29 ?_ | refine S30 ?_ | refine S33 ?_ | refine S37 ?_ | refine S38 ?_ | refine S40 ?_ | refine S41 ?_ | refine S43 ?_ | refine S44 ?_ | refine S45 ?_ | refine S46 ?_ | refine S48 ?_ | refine S53 ?_ | refine S65 ?_ | refine S66 ?_ | refine S68 ?_ | refine S69 ?_)
          exact ⟨.inr rfl, FR.cell1 rfl HBx rfl rfl (fz _ zs HBx g2)⟩
      · rw [if_neg (fun hh => h2 hh.2)] at hsd
        rw [hn1 hsd]
        repeat (first | refine S0 ?_ | refine S1 ?_ | refine S2 ?_ | refine S3 ?_ | refine S4 ?_ | refine S5 ?_ | refine S6 ?_ | refine S7 ?_ | refine S8 ?_ | refine S10 ?_ | refine S11 ?_ | refine S13 ?_ | refine S15 ?_ | refine S16 ?_ | refine S19 ?_ | refine S20 ?_ | refine S21 ?_ | refine S22 ?_ | refine S23 ?_ | refine S24 ?_ | refine S25 ?_ | refine S26 ?_ | refine S27 ?_ | refine S29 ?_ | refine S30 ?_ | refine S33 ?_ | refine S37 ?_ | refine S38 ?_ | refine S40 ?_ | refine S41 ?_ | refine S43 ?_ | refine S44 ?_ | refine S45 ?_ | refine S46 ?_ | refine S48 ?_ | refine S53 ?_ | refine S65 ?_ | refine S66 ?_ | refine S68 ?_ | refine S69 ?_)
        exact ⟨.inr rfl, FR.cell1 rfl HBx rfl rfl (fz _ c HBx rfl)⟩
    · rw [if_neg (fun hh => h1 hh.1)] at hsd
      rw [hn1 hsd]
      repeat (first | refine S0 ?_ | refine S1 ?_ | refine S2 ?_ | refine S3 ?_ | refine S4 ?_ | refine S5 ?_ | refine S6 ?_ | refine S7 ?_ | refine S8 ?_ | refine S10 ?_ | refine S11 ?_ | refine S13 ?_ | refine S15 ?_ | refine S16 ?_ | refine S19 ?_ | refine S20 ?_ | refine S21 ?_ | refine S22 ?_ | refine S23 ?_ | refine S24 ?_ | refine S25 ?_ | refine S26 ?_ | refine S27 ?_ | refine S29 ?_ | refine S30 ?_ | refine S33 ?_ | refine S37 ?_ | refine S38 ?_ | refine S40 ?_ | refine S41 ?_ | refine S43 ?_ | refine S44 ?_ | refine S45 ?_ | refine S46 ?_ | refine S48 ?_ | refine S53 ?_ | refine S65 ?_ | refine S66 ?_ | refine S68 ?_ | refine S69 ?_)
      exact ⟨.inr rfl, FR.cell1 rfl HBx rfl rfl (fz _ c HBx rfl)⟩
/-- the value at -1 -/
def atV (c : List Int) : Nat → Int
  | 0 => 0
  | k + 1 => wrp (atV c k + (if k % 2 = 0 then c.getD k 0 else wrp (-(c.getD k 0))))
set_option maxHeartbeats 4000000 in
set_option maxRecDepth 100000 in
theorem atV_s (c : List Int) (hl : c.length ≤ 10000) : SC Try.prog 47 [ppo (0, c), pint (-1)] (pint (atV c c.length)) := by
  refine SC.go {} tok mixed Try.func47 rfl rfl Try.ntmps47 rfl rfl (by kernel_rfl) ?_
  first | simp only [updS] | simp only [updL, Nat.reduceAdd]
  repeat (first | refine S0 ?_ | refine S1 ?_ | refine S2 ?_ | refine S3 ?_ | refine S4 ?_ | refine S5 ?_ | refine S6 ?_ | refine S7 ?_ | refine S8 ?_ | refine S10 ?_ | refine S11 ?_ | refine S13 ?_ | refine S15 ?_ | refine S16 ?_ | refine S19 ?_ | refine S20 ?_ | refine S21 ?_ | refine S22 ?_ | refine S23 ?_ | refine S24 ?_ | refine S25 ?_ | refine S26 ?_ | refine S27 ?_ | refine S29 ?_ | refine S30 ?_ | refine S33 ?_ | refine S37 ?_ | refine S38 ?_ | refine S40 ?_ | refine S41 ?_ | refine S43 ?_ | refine S44 ?_ | refine S45 ?_ | refine S46 ?_ | refine S48 ?_ | refine S53 ?_ | refine S65 ?_ | refine S66 ?_ | refine S68 ?_ | refine S69 ?_)
  refine CW.loopS (fun k : Nat => k ≤ c.length) (fun k => [(1, pint (-1)), (2, .lptr [pint 0, pli c]), (5, pint (atV c k)), (9, pli c), (10, pint c.length), (11, pint k)]) (fun _ _ => True) (fun k => c.length - k) 0 ⟨Nat.zero_le _, SLx, trivial⟩ ?_
  rintro k t h hk _
  first | simp only [updS] | simp only [updL, Nat.reduceAdd]
  by_cases hlt : k < c.length
  · have hs : atV c (k + 1) = wrp (atV c k + (if k % 2 = 0 then c.getD k 0 else wrp (-(c.getD k 0)))) := rfl
    obtain ⟨s, hsd⟩ : ∃ s, s = atV c k := ⟨_, rfl⟩
    rw [← hsd] at hs ⊢
    by_cases hm : k % 2 = 0
    · rw [if_pos hm] at hs
      have hm2 : ((0 : Int) + k).tmod 2 = 0 := by
        rw [Int.zero_add]
        show ((k % 2 : Nat) : Int) = 0
        omega
      repeat (first | refine S0 ?_ | refine S1 ?_ | refine S2 ?_ | refine S3 ?_ | refine S4 ?_ | refine S5 ?_ | refine S6 ?_ | refine S7 ?_ | refine S8 ?_ | refine S10 ?_ | refine S11 ?_ | refine S13 ?_ | refine S15 ?_ | refine S16 ?_ | refine S19 ?_ | refine S20 ?_ | refine S21 ?_ | refine S22 ?_ | refine S23 ?_ | refine S24 ?_ | refine S25 ?_ | refine S26 ?_ | refine S27 ?_ | refine S29 ?_ | refine S30 ?_ | refine S33 ?_ | refine S37 ?_ | refine S38 ?_ | refine S40 ?_ | refine S41 ?_ | refine S43 ?_ | refine S44 ?_ | refine S45 ?_ | refine S46 ?_ | refine S48 ?_ | refine S53 ?_ | refine S65 ?_ | refine S66 ?_ | refine S68 ?_ | refine S69 ?_)
      refine AW.addV EVx EVx ?_
      repeat (first | refine S0 ?_ | refine S1 ?_ | refine S2 ?_ | refine S3 ?_ | refine S4 ?_ | refine S5 ?_ | refine S6 ?_ | refine S7 ?_ | refine S8 ?_ | refine S10 ?_ | refine S11 ?_ | refine S13 ?_ | refine S15 ?_ | refine S16 ?_ | refine S19 ?_ | refine S20 ?_ | refine S21 ?_ | refine S22 ?_ | refine S23 ?_ | refine S24 ?_ | refine S25 ?_ | refine S26 ?_ | refine S27 ?_ | refine S29 ?_ | refine S30 ?_ | refine S33 ?_ | refine S37 ?_ | refine S38 ?_ | refine S40 ?_ | refine S41 ?_ | refine S43 ?_ | refine S44 ?_ | refine S45 ?_ | refine S46 ?_ | refine S48 ?_ | refine S53 ?_ | refine S65 ?_ | refine S66 ?_ | refine S68 ?_ | refine S69 ?_)
      exact ⟨k + 1, by omega, by rw [hs]; exact SLx, trivial, by omega⟩
    · rw [if_neg hm] at hs
      have hm2 : ¬ ((0 : Int) + k).tmod 2 = 0 := fun hh => by
        rw [Int.zero_add] at hh
        have hh2 : ((k % 2 : Nat) : Int) = 0 := hh
        omega
      repeat (first | refine S0 ?_ | refine S1 ?_ | refine S2 ?_ | refine S3 ?_ | refine S4 ?_ | refine S5 ?_ | refine S6 ?_ | refine S7 ?_ | refine S8 ?_ | refine S10 ?_ | refine S11 ?_ | refine S13 ?_ | refine S15 ?_ | refine S16 ?_ | refine S19 ?_ | refine S20 ?_ | refine S21 ?_ | refine S22 ?_ | refine S23 ?_ | refine S24 ?_ | refine S25 ?_ | refine S26 ?_ | refine S27 ?_ | refine S29 ?_ | refine S30 ?_ | refine S33 ?_ | refine S37 ?_ | refine S38 ?_ | refine S40 ?_ | refine S41 ?_ | refine S43 ?_ | refine S44 ?_ | refine S45 ?_ | refine S46 ?_ | refine S48 ?_ | refine S53 ?_ | refine S65 ?_ | refine S66 ?_ | refine S68 ?_ | refine S69 ?_)
      refine AW.negV EVx ?_
      repeat (first | refine S0 ?_ | refine S1 ?_ | refine S2 ?_ | refine S3 ?_ | refine S4 ?_ | refine S5 ?_ | refine S6 ?_ | refine S7 ?_ | refine S8 ?_ | refine S10 ?_ | refine S11 ?_ | refine S13 ?_ | refine S15 ?_ | refine S16 ?_ | refine S19 ?_ | refine S20 ?_ | refine S21 ?_ | refine S22 ?_ | refine S23 ?_ | refine S24 ?_ | refine S25 ?_ | refine S26 ?_ | refine S27 ?_ | refine S29 ?_ | refine S30 ?_ | refine S33 ?_ | refine S37 ?_ | refine S38 ?_ | refine S40 ?_ | refine S41 ?_ | refine S43 ?_ | refine S44 ?_ | refine S45 ?_ | refine S46 ?_ | refine S48 ?_ | refine S53 ?_ | refine S65 ?_ | refine S66 ?_ | refine S68 ?_ | refine S69 ?_)
      refine AW.addV EVx EVx ?_
      repeat (first | refine S0 ?_ | refine S1 ?_ | refine S2 ?_ | refine S3 ?_ | refine S4 ?_ | refine S5 ?_ | refine S6 ?_ | refine S7 ?_ | refine S8 ?_ | refine S10 ?_ | refine S11 ?_ | refine S13 ?_ | refine S15 ?_ | refine S16 ?_ | refine S19 ?_ | refine S20 ?_ | refine S21 ?_ | refine S22 ?_ | refine S23 ?_ | refine S24 ?_ | refine S25 ?_ | refine S26 ?_ | refine S27 ?_ | refine S29 ?_ | refine S30 ?_ | refine S33 ?_ | refine S37 ?_ | refine S38 ?_ | refine S40 ?_ | refine S41 ?_ | refine S43 ?_ | refine S44 ?_ | refine S45 ?_ | refine S46 ?_ | refine S48 ?_ | refine S53 ?_ | refine S65 ?_ | refine S66 ?_ | refine S68 ?_ | refine S69 ?_)
      exact ⟨k + 1, by omega, by rw [hs]; exact SLx, trivial, by omega⟩
  · obtain rfl : k = c.length := by omega
    repeat (first | refine S0 ?_ | refine S1 ?_ | refine S2 ?_ | refine S3 ?_ | refine S4 ?_ | refine S5 ?_ | refine S6 ?_ | refine S7 ?_ | refine S8 ?_ | refine S10 ?_ | refine S11 ?_ | refine S13 ?_ | refine S15 ?_ | refine S16 ?_ | refine S19 ?_ | refine S20 ?_ | refine S21 ?_ | refine S22 ?_ | refine S23 ?_ | refine S24 ?_ | refine S25 ?_ | refine S26 ?_ | refine S27 ?_ | refine S29 ?_ | refine S30 ?_ | refine S33 ?_ | refine S37 ?_ | refine S38 ?_ | refine S40 ?_ | refine S41 ?_ | refine S43 ?_ | refine S44 ?_ | refine S45 ?_ | refine S46 ?_ | refine S48 ?_ | refine S53 ?_ | refine S65 ?_ | refine S66 ?_ | refine S68 ?_ | refine S69 ?_)
    exact ⟨.inr rfl, .cl rfl⟩
end Go.Proofs.Ytenoiklocdoemaa
