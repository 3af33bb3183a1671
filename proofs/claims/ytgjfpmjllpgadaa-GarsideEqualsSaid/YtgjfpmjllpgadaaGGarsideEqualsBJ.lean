/- The factors of a form in memory; slices.DeleteFunc where the factors to be struck stand last. No condition of its own. -/
import Derived.Test.YtgjfpmjllpgadaaGGarsideEqualsBI
import Derived.Test.YtgjfpmjllpgadaaGGarsideEqualsAZ
set_option linter.unusedVariables false
set_option linter.unusedSimpArgs false
namespace Go.Proofs.Ytgjfpmjllpgadaa
open Go.RowKit

/-- m rows of n numbers, from the place off of the block T on -/
structure Fac (n m T off : Nat) (tk : Nat → Nat) (G : Fam) (h : HP) : Prop where
  cs : ∃ cs, h.blk T = some cs ∧ off + m ≤ cs.length ∧ ∀ j, j < m → cs[off + j]? = some (PV.ref (tk j) 0 1 n)
  row : ∀ j, j < m → h.blk (tk j) = some (ints (tabN n (G j)))
  inj : ∀ i j, i < m → j < m → tk i = tk j → i = j
  ne : ∀ j, j < m → tk j ≠ T
  ev : ∀ j, j < m → tk j % 2 = 0
  evT : T % 2 = 0
  lt : ∀ j, j < m → tk j < 2 * h.next
  ltT : T < 2 * h.next
theorem Fac.fr {n m T off : Nat} {tk : Nat → Nat} {G : Fam} {h h' : HP} {X : List Nat} (H : Fac n m T off tk G h) (f : Fr X h h') (h1 : T ∉ X) (h2 : ∀ j, j < m → tk j ∉ X) : Fac n m T off tk G h' := by
  obtain ⟨cs, c1, c2, c3⟩ := H.cs
  have := f.next
  exact ⟨⟨cs, by rw [f.blk _ H.ltT h1]; exact c1, c2, c3⟩, fun j hj => by rw [f.blk _ (H.lt j hj) (h2 j hj)]; exact H.row j hj, H.inj, H.ne, H.ev, H.evT, fun j hj => by have := H.lt j hj; omega, by have := H.ltT; omega⟩
/-- two rows beside each other are turned -/
theorem Fac.two {n m T off i : Nat} {tk : Nat → Nat} {G : Fam} {h h' : HP} {a b : Nat → Nat} (H : Fac n m T off tk G h) (hi : i + 1 < m) (f : Fr [tk i, tk (i + 1)] h h') (h1 : h'.blk (tk i) = some (ints (tabN n a))) (h2 : h'.blk (tk (i + 1)) = some (ints (tabN n b))) : Fac n m T off tk (ovr (ovr G i a) (i + 1) b) h' := by
  obtain ⟨cs, c1, c2, c3⟩ := H.cs
  have := f.next
  refine ⟨⟨cs, ?_, c2, c3⟩, fun j hj => ?_, H.inj, H.ne, H.ev, H.evT, fun j hj => by have := H.lt j hj; omega, by have := H.ltT; omega⟩
  · rw [f.blk _ H.ltT ?_]
    · exact c1
    · simp only [List.mem_cons, List.not_mem_nil, or_false]
      intro hh
      rcases hh with e | e
      · exact H.ne i (by omega) e.symm
      · exact H.ne (i + 1) hi e.symm
  · by_cases e : j = i + 1
    · rw [e, ovr_same]; exact h2
    · rw [ovr_ne _ _ e]
      by_cases e2 : j = i
      · rw [e2, ovr_same]; exact h1
      · rw [ovr_ne _ _ e2, f.blk _ (H.lt j hj) ?_]
        · exact H.row j hj
        · simp only [List.mem_cons, List.not_mem_nil, or_false]
          intro hh
          rcases hh with e3 | e3
          · exact e2 (H.inj j i hj (by omega) e3)
          · exact e (H.inj j (i + 1) hj hi e3)
/-- the rows from the s-th on -/
theorem Fac.from {n m T off : Nat} {tk : Nat → Nat} {G : Fam} {h : HP} (H : Fac n m T off tk G h) {s : Nat} (hs : s ≤ m) : Fac n (m - s) T (off + s) (fun j => tk (s + j)) (fun j => G (s + j)) h := by
  obtain ⟨cs, c1, c2, c3⟩ := H.cs
  exact ⟨⟨cs, c1, by omega, fun j hj => by rw [Nat.add_assoc]; exact c3 (s + j) (by omega)⟩, fun j hj => H.row (s + j) (by omega), fun i j hi hj e => by have := H.inj (s + i) (s + j) (by omega) (by omega) e; omega, fun j hj => H.ne _ (by omega), fun j hj => H.ev _ (by omega), H.evT, fun j hj => H.lt _ (by omega), H.ltT⟩
theorem Fac.cong {n m T off : Nat} {tk : Nat → Nat} {G G' : Fam} {h : HP} (H : Fac n m T off tk G h) (e : ∀ j, j < m → G j = G' j) : Fac n m T off tk G' h :=
  ⟨H.cs, fun j hj => by rw [← e j hj]; exact H.row j hj, H.inj, H.ne, H.ev, H.evT, H.lt, H.ltT⟩
/-- the first rows, where the block is turned behind them -/
theorem Fac.to {n m T off : Nat} {tk : Nat → Nat} {G : Fam} {h : HP} (H : Fac n m T off tk G h) {c : Nat} (hc : c ≤ m) {cs' : List PV} {cs : List PV} (hb : h.blk T = some cs) (hl : cs'.length = cs.length) (hk : ∀ j, j < c → cs'[off + j]? = cs[off + j]?) : Fac n c T off tk G (h.set T cs') := by
  obtain ⟨cs0, c1, c2, c3⟩ := H.cs
  rw [hb] at c1
  cases c1
  exact ⟨⟨cs', HP.set_same _ _ _, by omega, fun j hj => by rw [hk j hj]; exact c3 j (by omega)⟩, fun j hj => (HP.set_other _ _ (H.ne j (by omega))).trans (H.row j (by omega)), fun i j hi hj e => H.inj i j (by omega) (by omega) e, fun j hj => H.ne _ (by omega), fun j hj => H.ev _ (by omega), H.evT, fun j hj => H.lt _ (by omega), H.ltT⟩
theorem tab_one {n : Nat} {f : Nat → Nat} : tabN n f = tabN n id ↔ isOne n f := by
  constructor
  · intro h i hi
    have := congrArg (fun l => l.getD i 0) h
    simp only [tab_getI hi] at this
    have h2 : ((f i : Nat) : Int) = ((id i : Nat) : Int) := this
    exact Int.ofNat.inj h2
  · intro h; exact tab_ext h
theorem tab_tw {n : Nat} {f : Nat → Nat} : tabN n f = rvT n ↔ isTw n f := by
  constructor
  · intro h i hi
    have := congrArg (fun l => l.getD i 0) h
    unfold rvT at this
    simp only [tab_getI hi] at this
    unfold hlf; omega
  · intro h; exact tab_ext h
set_option maxHeartbeats 4000000 in
set_option maxRecDepth 100000 in
theorem one1_e {n t : Nat} {f : Nat → Nat} (h : HP) (hb : h.blk t = some (ints (tabN n f))) : SChE Try.prog 164 [.ref t 0 1 n, .lptr [pli (tabN n id)]] h (fun r h' => r = .sc (.bool (decide (tabN n f = tabN n id))) ∧ h' = h) := by
  have k := equal_s (tabN n f) (tabN n id)
  refine SChE.go {} tok mixed Try.func164 rfl rfl Try.ntmps164 rfl rfl (by kernel_rfl) (fun hw => ?_)
  first | simp only [updS] | simp only [updL, Nat.reduceAdd]
  repeat (first | refine S0 ?_ | refine S1 ?_ | refine S2 ?_ | refine S4 ?_ | refine S5 ?_ | refine S6 ?_ | refine S7 ?_ | refine S8 ?_ | refine S9 ?_ | refine S10 ?_ | refine S11 ?_ | refine S12 ?_ | refine S13 ?_ | refine S15 ?_ | refine S16 ?_ | refine S19 ?_ | refine S20 ?_ | refine S21 ?_ | refine S22 ?_ | refine S24 ?_ | refine S26 ?_ | refine S27 ?_ | refine S28 ?_ | refine S36 ?_)
  refine Scallb (args := [pli (tabN n f), pli (tabN n id)]) k ?_ (ha := by simp only [evA, upd, Nat.reduceEqDiff, ↓reduceIte, List.map_cons, List.map_nil]; rw [bwT hb]; rfl)
  repeat (first | refine S0 ?_ | refine S1 ?_ | refine S2 ?_ | refine S4 ?_ | refine S5 ?_ | refine S6 ?_ | refine S7 ?_ | refine S8 ?_ | refine S9 ?_ | refine S10 ?_ | refine S11 ?_ | refine S12 ?_ | refine S13 ?_ | refine S15 ?_ | refine S16 ?_ | refine S19 ?_ | refine S20 ?_ | refine S21 ?_ | refine S22 ?_ | refine S24 ?_ | refine S26 ?_ | refine S27 ?_ | refine S28 ?_ | refine S36 ?_)
  exact ⟨.inr rfl, _, ⟨_, rfl, rfl⟩, rfl, rfl⟩
set_option maxHeartbeats 16000000 in
set_option maxRecDepth 100000 in
theorem ixone_e {n m T off c : Nat} {tk : Nat → Nat} {G : Fam} {h : HP} (H : Fac n m T off tk G h) (hm : m ≤ 1000000) (hc : c ≤ m) (h1 : ∀ j, j < c → ¬ isOne n (G j)) (h2 : ∀ j, c ≤ j → j < m → isOne n (G j)) :
    SChE Try.prog 92 [.ref T off 1 m, .clo 164 [.lptr [pli (tabN n id)]]] h (fun r h' => r = pint (if c < m then (c : Int) else -1) ∧ h' = h) := by
  obtain ⟨cs, c1, c2, c3⟩ := H.cs
  have hev := H.evT
  refine SChE.go {} tok mixed Try.func92 rfl rfl Try.ntmps92 rfl rfl (by kernel_rfl) (fun hw => ?_)
  first | simp only [updS] | simp only [updL, Nat.reduceAdd]
  repeat (first | refine S0 ?_ | refine S1 ?_ | refine S2 ?_ | refine S4 ?_ | refine S5 ?_ | refine S6 ?_ | refine S7 ?_ | refine S8 ?_ | refine S9 ?_ | refine S10 ?_ | refine S11 ?_ | refine S12 ?_ | refine S13 ?_ | refine S15 ?_ | refine S16 ?_ | refine S19 ?_ | refine S20 ?_ | refine S21 ?_ | refine S22 ?_ | refine S24 ?_ | refine S26 ?_ | refine S27 ?_ | refine S28 ?_ | refine S36 ?_)
  refine CW.loopS (fun i : Nat => i ≤ c) (fun i => [(0, .ref T off 1 m), (1, .clo 164 [.lptr [pli (tabN n id)]]), (7, pint m), (8, pint i)]) (fun _ h' => h' = h) (fun i => m - i) 0 ⟨Nat.zero_le _, SLx, rfl⟩ ?_
  rintro i t hp hi rfl
  first | simp only [updS] | simp only [updL, Nat.reduceAdd]
  by_cases him : i < m
  · have kc := one1_e (n := n) (t := tk i) (f := G i) hp (H.row i him)
    repeat (first | refine S0 ?_ | refine S1 ?_ | refine S2 ?_ | refine S4 ?_ | refine S5 ?_ | refine S6 ?_ | refine S7 ?_ | refine S8 ?_ | refine S9 ?_ | refine S10 ?_ | refine S11 ?_ | refine S12 ?_ | refine S13 ?_ | refine S15 ?_ | refine S16 ?_ | refine S19 ?_ | refine S20 ?_ | refine S21 ?_ | refine S22 ?_ | refine S24 ?_ | refine S26 ?_ | refine S27 ?_ | refine S28 ?_ | refine S36 ?_)
    rw [show off + (i : Int).toNat * 1 = off + i by simp]
    refine AW.ldm EVx (by first | exact Or.inl rfl | exact Or.inr ⟨rfl, HP.tok_even _⟩ | exact Or.inr (Or.inl ⟨rfl, HP.tok_even _⟩) | exact Or.inr (Or.inr ⟨rfl, HP.tok_odd _⟩) | exact Or.inr (Or.inl rfl) | exact Or.inr (Or.inr (Or.inl rfl)) | exact Or.inr (Or.inr (Or.inr (Or.inl ⟨rfl, HP.tok_odd _⟩))) | exact Or.inr (Or.inr (Or.inr (Or.inr ⟨rfl, HP.tok_even _⟩))) | exact Or.inr (Or.inr (Or.inr (Or.inr ⟨rfl, by assumption⟩))) | exact Or.inr ⟨rfl, by assumption⟩ | exact Or.inr (Or.inl ⟨rfl, by assumption⟩) | exact Or.inr (Or.inr ⟨rfl, by assumption⟩) | exact Or.inr (Or.inr (Or.inr (Or.inl ⟨rfl, by assumption⟩))) | exact Or.inr (Or.inr (Or.inl ⟨rfl, HP.tok_odd _⟩)) | exact Or.inr (Or.inr (Or.inl ⟨rfl, by assumption⟩)) | exact Or.inr (Or.inr (Or.inr rfl)) | exact Or.inr (Or.inr rfl) | exact Or.inr rfl) rfl c1 (c3 i him) ?_
    refine AW.callve (f := 164) (cap := [.lptr [pli (tabN n id)]]) (args := [.ref (tk i) 0 1 n, .lptr [pli (tabN n id)]]) rfl rfl rfl kc ?_
    rintro r h' ⟨rfl, rfl⟩
    by_cases hic : i < c
    · rw [show decide (tabN n (G i) = tabN n id) = false from decide_eq_false (fun e => h1 i hic (tab_one.1 e))]
      repeat (first | refine S0 ?_ | refine S1 ?_ | refine S2 ?_ | refine S4 ?_ | refine S5 ?_ | refine S6 ?_ | refine S7 ?_ | refine S8 ?_ | refine S9 ?_ | refine S10 ?_ | refine S11 ?_ | refine S12 ?_ | refine S13 ?_ | refine S15 ?_ | refine S16 ?_ | refine S19 ?_ | refine S20 ?_ | refine S21 ?_ | refine S22 ?_ | refine S24 ?_ | refine S26 ?_ | refine S27 ?_ | refine S28 ?_ | refine S36 ?_)
      exact ⟨i + 1, hic, SLx, rfl, by omega⟩
    · obtain rfl : i = c := by omega
      rw [show decide (tabN n (G i) = tabN n id) = true from decide_eq_true (tab_one.2 (h2 i (Nat.le_refl _) him)), if_pos him]
      repeat (first | refine S0 ?_ | refine S1 ?_ | refine S2 ?_ | refine S4 ?_ | refine S5 ?_ | refine S6 ?_ | refine S7 ?_ | refine S8 ?_ | refine S9 ?_ | refine S10 ?_ | refine S11 ?_ | refine S12 ?_ | refine S13 ?_ | refine S15 ?_ | refine S16 ?_ | refine S19 ?_ | refine S20 ?_ | refine S21 ?_ | refine S22 ?_ | refine S24 ?_ | refine S26 ?_ | refine S27 ?_ | refine S28 ?_ | refine S36 ?_)
      exact ⟨.inr rfl, _, ⟨_, rfl, rfl⟩, rfl, rfl⟩
  · obtain rfl : i = m := by omega
    rw [if_neg (by omega)]
    repeat (first | refine S0 ?_ | refine S1 ?_ | refine S2 ?_ | refine S4 ?_ | refine S5 ?_ | refine S6 ?_ | refine S7 ?_ | refine S8 ?_ | refine S9 ?_ | refine S10 ?_ | refine S11 ?_ | refine S12 ?_ | refine S13 ?_ | refine S15 ?_ | refine S16 ?_ | refine S19 ?_ | refine S20 ?_ | refine S21 ?_ | refine S22 ?_ | refine S24 ?_ | refine S26 ?_ | refine S27 ?_ | refine S28 ?_ | refine S36 ?_)
    exact ⟨.inr rfl, _, ⟨_, rfl, rfl⟩, rfl, rfl⟩
set_option maxHeartbeats 16000000 in
set_option maxRecDepth 100000 in
theorem delone_e {n m T off c : Nat} {tk : Nat → Nat} {G : Fam} {h : HP} (H : Fac n m T off tk G h) (hm : m ≤ 1000000) (hc : c ≤ m) (h1 : ∀ j, j < c → ¬ isOne n (G j)) (h2 : ∀ j, c ≤ j → j < m → isOne n (G j)) :
    SChE Try.prog 163 [.ref T off 1 m, .clo 164 [.lptr [pli (tabN n id)]]] h (fun r h' => r = .ref T off 1 c ∧ Fac n c T off tk G h' ∧ Fr [T] h h') := by
  obtain ⟨cs, c1, c2, c3⟩ := H.cs
  have hev := H.evT
  have ki := ixone_e H hm hc h1 h2
  refine SChE.go {} tok mixed Try.func163 rfl rfl Try.ntmps163 rfl rfl (by kernel_rfl) (fun hw => ?_)
  first | simp only [updS] | simp only [updL, Nat.reduceAdd]
  repeat (first | refine S0 ?_ | refine S1 ?_ | refine S2 ?_ | refine S4 ?_ | refine S5 ?_ | refine S6 ?_ | refine S7 ?_ | refine S8 ?_ | refine S9 ?_ | refine S10 ?_ | refine S11 ?_ | refine S12 ?_ | refine S13 ?_ | refine S15 ?_ | refine S16 ?_ | refine S19 ?_ | refine S20 ?_ | refine S21 ?_ | refine S22 ?_ | refine S24 ?_ | refine S26 ?_ | refine S27 ?_ | refine S28 ?_ | refine S36 ?_)
  refine Scalle (args := [.ref T off 1 m, .clo 164 [.lptr [pli (tabN n id)]]]) ki ?_
  rintro r h' ⟨rfl, rfl⟩
  by_cases hcm : c < m
  · rw [if_pos hcm]
    repeat (first | refine S0 ?_ | refine S1 ?_ | refine S2 ?_ | refine S4 ?_ | refine S5 ?_ | refine S6 ?_ | refine S7 ?_ | refine S8 ?_ | refine S9 ?_ | refine S10 ?_ | refine S11 ?_ | refine S12 ?_ | refine S13 ?_ | refine S15 ?_ | refine S16 ?_ | refine S19 ?_ | refine S20 ?_ | refine S21 ?_ | refine S22 ?_ | refine S24 ?_ | refine S26 ?_ | refine S27 ?_ | refine S28 ?_ | refine S36 ?_)
    refine CW.loopS (fun i : Nat => c < i ∧ i ≤ m) (fun i => [(0, .ref T off 1 m), (1, .clo 164 [.lptr [pli (tabN n id)]]), (5, pint c), (6, pint i)]) (fun _ hh => hh = h') (fun i => m - i) (c + 1) ⟨by omega, SLx, rfl⟩ ?_
    rintro i t hp ⟨hi, hi2⟩ rfl
    first | simp only [updS] | simp only [updL, Nat.reduceAdd]
    by_cases him : i < m
    · have kc := one1_e (n := n) (t := tk i) (f := G i) hp (H.row i him)
      repeat (first | refine S0 ?_ | refine S1 ?_ | refine S2 ?_ | refine S4 ?_ | refine S5 ?_ | refine S6 ?_ | refine S7 ?_ | refine S8 ?_ | refine S9 ?_ | refine S10 ?_ | refine S11 ?_ | refine S12 ?_ | refine S13 ?_ | refine S15 ?_ | refine S16 ?_ | refine S19 ?_ | refine S20 ?_ | refine S21 ?_ | refine S22 ?_ | refine S24 ?_ | refine S26 ?_ | refine S27 ?_ | refine S28 ?_ | refine S36 ?_)
      rw [show off + (i : Int).toNat * 1 = off + i by simp]
      refine AW.ldm EVx (by first | exact Or.inl rfl | exact Or.inr ⟨rfl, HP.tok_even _⟩ | exact Or.inr (Or.inl ⟨rfl, HP.tok_even _⟩) | exact Or.inr (Or.inr ⟨rfl, HP.tok_odd _⟩) | exact Or.inr (Or.inl rfl) | exact Or.inr (Or.inr (Or.inl rfl)) | exact Or.inr (Or.inr (Or.inr (Or.inl ⟨rfl, HP.tok_odd _⟩))) | exact Or.inr (Or.inr (Or.inr (Or.inr ⟨rfl, HP.tok_even _⟩))) | exact Or.inr (Or.inr (Or.inr (Or.inr ⟨rfl, by assumption⟩))) | exact Or.inr ⟨rfl, by assumption⟩ | exact Or.inr (Or.inl ⟨rfl, by assumption⟩) | exact Or.inr (Or.inr ⟨rfl, by assumption⟩) | exact Or.inr (Or.inr (Or.inr (Or.inl ⟨rfl, by assumption⟩))) | exact Or.inr (Or.inr (Or.inl ⟨rfl, HP.tok_odd _⟩)) | exact Or.inr (Or.inr (Or.inl ⟨rfl, by assumption⟩)) | exact Or.inr (Or.inr (Or.inr rfl)) | exact Or.inr (Or.inr rfl) | exact Or.inr rfl) rfl c1 (c3 i him) ?_
      repeat (first | refine S0 ?_ | refine S1 ?_ | refine S2 ?_ | refine S4 ?_ | refine S5 ?_ | refine S6 ?_ | refine S7 ?_ | refine S8 ?_ | refine S9 ?_ | refine S10 ?_ | refine S11 ?_ | refine S12 ?_ | refine S13 ?_ | refine S15 ?_ | refine S16 ?_ | refine S19 ?_ | refine S20 ?_ | refine S21 ?_ | refine S22 ?_ | refine S24 ?_ | refine S26 ?_ | refine S27 ?_ | refine S28 ?_ | refine S36 ?_)
      refine AW.callve (f := 164) (cap := [.lptr [pli (tabN n id)]]) (args := [.ref (tk i) 0 1 n, .lptr [pli (tabN n id)]]) rfl rfl rfl kc ?_
      rintro r h' ⟨rfl, rfl⟩
      rw [show decide (tabN n (G i) = tabN n id) = true from decide_eq_true (tab_one.2 (h2 i (by omega) him))]
      repeat (first | refine S0 ?_ | refine S1 ?_ | refine S2 ?_ | refine S4 ?_ | refine S5 ?_ | refine S6 ?_ | refine S7 ?_ | refine S8 ?_ | refine S9 ?_ | refine S10 ?_ | refine S11 ?_ | refine S12 ?_ | refine S13 ?_ | refine S15 ?_ | refine S16 ?_ | refine S19 ?_ | refine S20 ?_ | refine S21 ?_ | refine S22 ?_ | refine S24 ?_ | refine S26 ?_ | refine S27 ?_ | refine S28 ?_ | refine S36 ?_)
      exact ⟨i + 1, by omega, SLx, rfl, by omega⟩
    · obtain rfl : i = m := by omega
      repeat (first | refine S0 ?_ | refine S1 ?_ | refine S2 ?_ | refine S4 ?_ | refine S5 ?_ | refine S6 ?_ | refine S7 ?_ | refine S8 ?_ | refine S9 ?_ | refine S10 ?_ | refine S11 ?_ | refine S12 ?_ | refine S13 ?_ | refine S15 ?_ | refine S16 ?_ | refine S19 ?_ | refine S20 ?_ | refine S21 ?_ | refine S22 ?_ | refine S24 ?_ | refine S26 ?_ | refine S27 ?_ | refine S28 ?_ | refine S36 ?_)
      refine AW.slrFr (q := c) EVx rfl EVx rfl hc ?_
      refine AW.clr EVx rfl rfl c1 (by omega) rfl ?_
      repeat (first | refine S0 ?_ | refine S1 ?_ | refine S2 ?_ | refine S4 ?_ | refine S5 ?_ | refine S6 ?_ | refine S7 ?_ | refine S8 ?_ | refine S9 ?_ | refine S10 ?_ | refine S11 ?_ | refine S12 ?_ | refine S13 ?_ | refine S15 ?_ | refine S16 ?_ | refine S19 ?_ | refine S20 ?_ | refine S21 ?_ | refine S22 ?_ | refine S24 ?_ | refine S26 ?_ | refine S27 ?_ | refine S28 ?_ | refine S36 ?_)
      refine AW.slrTo (q := c) EVx rfl EVx rfl hc ?_
      repeat (first | refine S0 ?_ | refine S1 ?_ | refine S2 ?_ | refine S4 ?_ | refine S5 ?_ | refine S6 ?_ | refine S7 ?_ | refine S8 ?_ | refine S9 ?_ | refine S10 ?_ | refine S11 ?_ | refine S12 ?_ | refine S13 ?_ | refine S15 ?_ | refine S16 ?_ | refine S19 ?_ | refine S20 ?_ | refine S21 ?_ | refine S22 ?_ | refine S24 ?_ | refine S26 ?_ | refine S27 ?_ | refine S28 ?_ | refine S36 ?_)
      refine ⟨.inr rfl, _, ⟨_, rfl, rfl⟩, rfl, H.to hc c1 ?_ (fun j hj => ?_), (Fr.refl _ _).set _ (.inl (by simp))⟩
      · simp only [List.length_append, List.length_take, List.length_replicate, List.length_drop]; omega
      · rw [List.append_assoc, List.getElem?_append_left (by rw [List.length_take]; omega), List.getElem?_take, if_pos (by omega)]
  · obtain rfl : c = m := by omega
    rw [if_neg (by omega)]
    repeat (first | refine S0 ?_ | refine S1 ?_ | refine S2 ?_ | refine S4 ?_ | refine S5 ?_ | refine S6 ?_ | refine S7 ?_ | refine S8 ?_ | refine S9 ?_ | refine S10 ?_ | refine S11 ?_ | refine S12 ?_ | refine S13 ?_ | refine S15 ?_ | refine S16 ?_ | refine S19 ?_ | refine S20 ?_ | refine S21 ?_ | refine S22 ?_ | refine S24 ?_ | refine S26 ?_ | refine S27 ?_ | refine S28 ?_ | refine S36 ?_)
    exact ⟨.inr rfl, _, ⟨_, rfl, rfl⟩, rfl, H, Fr.refl _ _⟩
end Go.Proofs.Ytgjfpmjllpgadaa
