/- (*garside.form).add, garside.formOf: the form of a word. No condition of its own. -/
import Derived.Test.YtgjfpmjllpgadaaGGarsideEqualsBL
import Derived.Test.YtgjfpmjllpgadaaGGarsideEqualsAV
set_option linter.unusedVariables false
set_option linter.unusedSimpArgs false
namespace Go.Proofs.Ytgjfpmjllpgadaa
open Go.RowKit

set_option maxHeartbeats 4000000 in
set_option maxRecDepth 100000 in
theorem half_o {n : Nat} (hn : n ≤ 6) : SCo Try.prog 109 [pint n] 1 n (ints (rvT n)) := by
  have ki := identity_o n (by omega)
  have hl := tab_len n id
  refine SCo.go {} tok mixed Try.func109 rfl rfl Try.ntmps109 rfl rfl (by kernel_rfl) ?_
  first | simp only [updS] | simp only [updL, Nat.reduceAdd]
  repeat (first | refine S0 ?_ | refine S1 ?_ | refine S2 ?_ | refine S5 ?_ | refine S7 ?_ | refine S8 ?_ | refine S15 ?_ | refine S16 ?_ | refine S19 ?_ | refine S20 ?_ | refine S21 ?_ | refine S27 ?_ | refine S33 ?_ | refine S45 ?_ | refine S46 ?_ | refine S49 ?_ | refine S63 ?_ | refine S65 ?_ | refine S67 ?_)
  refine Scallo (args := [pint n]) ki ?_
  repeat (first | refine S0 ?_ | refine S1 ?_ | refine S2 ?_ | refine S5 ?_ | refine S7 ?_ | refine S8 ?_ | refine S15 ?_ | refine S16 ?_ | refine S19 ?_ | refine S20 ?_ | refine S21 ?_ | refine S27 ?_ | refine S33 ?_ | refine S45 ?_ | refine S46 ?_ | refine S49 ?_ | refine S63 ?_ | refine S65 ?_ | refine S67 ?_)
  have kr := reverse_e (h := H0.add false (ints (tabN n id))) (tk := 0) (xs := tabN n id) (by rw [hl]; omega) (HP.add_same _ _ _)
  rw [hl, tab_rev] at kr
  refine Scalle (args := [.ref 0 0 1 n]) kr ?_
  rintro r h' ⟨hb, hf⟩
  repeat (first | refine S0 ?_ | refine S1 ?_ | refine S2 ?_ | refine S5 ?_ | refine S7 ?_ | refine S8 ?_ | refine S15 ?_ | refine S16 ?_ | refine S19 ?_ | refine S20 ?_ | refine S21 ?_ | refine S27 ?_ | refine S33 ?_ | refine S45 ?_ | refine S46 ?_ | refine S49 ?_ | refine S63 ?_ | refine S65 ?_ | refine S67 ?_)
  have hl2 := tab_len n (fun j => n - 1 - j)
  have e := Ow.ints (h := h') (t := 0) (k := n) (zs := rvT n) (ys := rvT n) hb (by unfold rvT; exact hl2.symm) rfl
  rw [show (rvT n).length = n from hl2] at e
  exact ⟨.inr rfl, e⟩
/-- one more row, at a new outer block -/
theorem Fac.app {n m T off T' T2 : Nat} {tk : Nat → Nat} {G : Fam} {h X : HP} {cs : List PV} {g : Nat → Nat} (H : Fac n m T off tk G h) (hb : h.blk T = some cs) (ev : T' % 2 = 0) (ev2 : T2 % 2 = 0) (hT' : 2 * h.next ≤ T') (hT2 : 2 * h.next ≤ T2) (hne : T' ≠ T2) (hTn : T' < 2 * X.next) (hTn2 : T2 < 2 * X.next) (hXT : X.blk T2 = some ((cs.drop off).take m ++ [.ref T' 0 1 n])) (hXb : ∀ j, j < m → X.blk (tk j) = h.blk (tk j)) (hXr : X.blk T' = some (ints (tabN n g))) :
    Fac n (m + 1) T2 0 (ovr tk m T') (ovr G m g) X := by
  obtain ⟨cs0, c1, c2, c3⟩ := H.cs
  rw [hb] at c1
  cases c1
  have hlen : ((cs.drop off).take m).length = m := by rw [List.length_take, List.length_drop]; omega
  refine ⟨⟨_, hXT, by rw [List.length_append, hlen]; simp, fun j hj => ?_⟩, fun j hj => ?_, fun a b ha hb e => ?_, fun j hj => ?_, fun j hj => ?_, ev2, fun j hj => ?_, hTn2⟩
  · rw [Nat.zero_add]
    by_cases e : j = m
    · rw [e, ovr_same, List.getElem?_append_right (by omega), hlen]; simp
    · rw [ovr_ne _ _ e, List.getElem?_append_left (by omega), List.getElem?_take, if_pos (by omega), List.getElem?_drop]
      exact c3 j (by omega)
  · by_cases e : j = m
    · rw [e, ovr_same, ovr_same]; exact hXr
    · rw [ovr_ne _ _ e, ovr_ne _ _ e, hXb j (by omega)]; exact H.row j (by omega)
  · by_cases e1 : a = m
    · by_cases e2 : b = m
      · omega
      · rw [e1, ovr_same, ovr_ne _ _ e2] at e
        have := H.lt b (by omega); omega
    · by_cases e2 : b = m
      · rw [e2, ovr_same, ovr_ne _ _ e1] at e
        have := H.lt a (by omega); omega
      · rw [ovr_ne _ _ e1, ovr_ne _ _ e2] at e
        exact H.inj a b (by omega) (by omega) e
  · by_cases e : j = m
    · rw [e, ovr_same]; omega
    · rw [ovr_ne _ _ e]; have := H.lt j (by omega); omega
  · by_cases e : j = m
    · rw [e, ovr_same]; exact ev
    · rw [ovr_ne _ _ e]; exact H.ev j (by omega)
  · by_cases e : j = m
    · rw [e, ovr_same]; exact hTn
    · rw [ovr_ne _ _ e]; have := H.lt j (by omega); omega
set_option maxHeartbeats 32000000 in
set_option maxRecDepth 100000 in
theorem add_e {n m T off tf : Nat} {k x : Int} {tk : Nat → Nat} {G : Fam} (hn : 2 ≤ n ∧ n ≤ 6) (hm : m ≤ 100) (hk : -100 ≤ k ∧ k ≤ 100) (hx : 1 ≤ x.natAbs ∧ x.natAbs < n) (h0 : ∀ i, i < m → IsP (G i) n) (h : HP) (hv : h.blk tf = some [pint n, pint k, .ref T off 1 m]) (hF : Fac n m T off tk G h) (ho : tf % 2 = 1) (hlt : tf < 2 * h.next) :
    SChE Try.prog 135 [.ptr tf 0, pint x] h (fun _ h' => ∃ k' m' G' T' off' tk', Stl n (if 0 < x then k else k - 1) (m + 1) (addG n m G x) k' m' G' ∧ h'.blk tf = some [pint n, pint k', .ref T' off' 1 m'] ∧ Fac n m' T' off' tk' G' h' ∧ tf < 2 * h'.next) := by
  have hn6 := hn.2
  have ki := identity_o n (by omega)
  have kh := half_o hn6
  obtain ⟨v, hvx⟩ : ∃ v : Nat, x.natAbs = v + 1 := ⟨x.natAbs - 1, by omega⟩
  have hvn : v + 1 < n := by omega
  have hax : absI x = (v : Int) + 1 := by rw [show absI x = (x.natAbs : Int) by unfold absI; split <;> omega]; omega
  refine SChE.go {} tok mixed Try.func135 rfl rfl Try.ntmps135 rfl rfl (by kernel_rfl) (fun hw => ?_)
  first | simp only [updS] | simp only [updL, Nat.reduceAdd]
  repeat (first | refine S0 ?_ | refine S1 ?_ | refine S2 ?_ | refine S5 ?_ | refine S7 ?_ | refine S8 ?_ | refine S15 ?_ | refine S16 ?_ | refine S19 ?_ | refine S20 ?_ | refine S21 ?_ | refine S27 ?_ | refine S33 ?_ | refine S45 ?_ | refine S46 ?_ | refine S49 ?_ | refine S63 ?_ | refine S65 ?_ | refine S67 ?_)
  refine Scall (args := [pint x]) (bindex_s x (by omega)) ?_
  rw [hax]
  repeat (first | refine S0 ?_ | refine S1 ?_ | refine S2 ?_ | refine S5 ?_ | refine S7 ?_ | refine S8 ?_ | refine S15 ?_ | refine S16 ?_ | refine S19 ?_ | refine S20 ?_ | refine S21 ?_ | refine S27 ?_ | refine S33 ?_ | refine S45 ?_ | refine S46 ?_ | refine S49 ?_ | refine S63 ?_ | refine S65 ?_ | refine S67 ?_)
  refine Scallo (args := [pint n]) ki ?_
  iterate 4 (first | refine S0 ?_ | refine S1 ?_ | refine S2 ?_ | refine S5 ?_ | refine S7 ?_ | refine S8 ?_ | refine S15 ?_ | refine S16 ?_ | refine S19 ?_ | refine S20 ?_ | refine S21 ?_ | refine S27 ?_ | refine S33 ?_ | refine S45 ?_ | refine S46 ?_ | refine S49 ?_ | refine S63 ?_ | refine S65 ?_ | refine S67 ?_)
  obtain ⟨k1, G1, base, hcase⟩ : ∃ (k1 : Int) (G1 : Fam) (base : Nat → Nat), (0 < x ∧ k1 = k ∧ G1 = G ∧ base = id) ∨ (x < 0 ∧ k1 = k - 1 ∧ G1 = (fun i => trn n (G i)) ∧ base = hlf n) := by
    by_cases h : 0 < x
    · exact ⟨k, G, id, .inl ⟨h, rfl, rfl, rfl⟩⟩
    · exact ⟨k - 1, fun i => trn n (G i), hlf n, .inr ⟨by omega, rfl, rfl, rfl⟩⟩
  refine CW.midS (fun i : Nat × (Nat → Nat) => i.1 % 2 = 0) (fun i => [(0, .ptr tf 0), (1, pint x), (4, pint ((v : Int) + 1)), (5, .ref i.1 0 1 n)]) (fun i hp => ∃ h1, h1.blk tf = some [pint n, pint k1, .ref T off 1 m] ∧ Fac n m T off i.2 G1 h1 ∧ tf < 2 * h1.next ∧ Fr [] h1 hp ∧ 2 * h1.next ≤ i.1 ∧ i.1 < 2 * hp.next ∧ hp.blk i.1 = some (ints (tabN n base))) ?_ ?_
  · have fr0 : Fr [] h (h.add false (ints (tabN n id))) := (Fr.refl _ _).add false _
    rcases hcase with ⟨hx0, rfl, rfl, rfl⟩ | ⟨hx0, rfl, rfl, rfl⟩
    · repeat (first | refine S0 ?_ | refine S1 ?_ | refine S2 ?_ | refine S5 ?_ | refine S7 ?_ | refine S8 ?_ | refine S15 ?_ | refine S16 ?_ | refine S19 ?_ | refine S20 ?_ | refine S21 ?_ | refine S27 ?_ | refine S33 ?_ | refine S45 ?_ | refine S46 ?_ | refine S49 ?_ | refine S63 ?_ | refine S65 ?_ | refine S67 ?_)
      exact ⟨(h.tok false, tk), HP.tok_even _, SLx, h, hv, hF, hlt, fr0, (HP.tok_ge _ _).1, by simp only [HP.tokF]; show _ < 2 * (h.next + 1); omega, HP.add_same _ _ _⟩
    · have hF1 := hF.fr fr0 (by simp) (by simp)
      have hv1 : (h.add false (ints (tabN n id))).blk tf = some [pint n, pint k, .ref T off 1 m] := by rw [fr0.blk _ hlt (by simp)]; exact hv
      have hl1 : tf < 2 * (h.add false (ints (tabN n id))).next := by have := fr0.next; omega
      generalize h.add false (ints (tabN n id)) = X at *
      have fr1 : Fr [tf] X (X.set tf [pint n, pint (k - 1), .ref T off 1 m]) := (Fr.refl _ _).set _ (.inl (by simp))
      have kt := turn_e hn (by omega) h0 (X.set tf [pint n, pint (k - 1), .ref T off 1 m]) (HP.set_same _ _ _) (hF1.fr fr1 (by simp only [List.mem_singleton]; have := hF1.evT; omega) (fun j hj => by simp only [List.mem_singleton]; have := hF1.ev j hj; omega)) ho hl1
      repeat (first | refine S0 ?_ | refine S1 ?_ | refine S2 ?_ | refine S5 ?_ | refine S7 ?_ | refine S8 ?_ | refine S15 ?_ | refine S16 ?_ | refine S19 ?_ | refine S20 ?_ | refine S21 ?_ | refine S27 ?_ | refine S33 ?_ | refine S45 ?_ | refine S46 ?_ | refine S49 ?_ | refine S63 ?_ | refine S65 ?_ | refine S67 ?_)
      refine Scalle (args := [.ptr tf 0]) kt ?_
      rintro r h' ⟨tk', v', F', l'⟩
      repeat (first | refine S0 ?_ | refine S1 ?_ | refine S2 ?_ | refine S5 ?_ | refine S7 ?_ | refine S8 ?_ | refine S15 ?_ | refine S16 ?_ | refine S19 ?_ | refine S20 ?_ | refine S21 ?_ | refine S27 ?_ | refine S33 ?_ | refine S45 ?_ | refine S46 ?_ | refine S49 ?_ | refine S63 ?_ | refine S65 ?_ | refine S67 ?_)
      refine Scallo (args := [pint n]) kh ?_
      repeat (first | refine S0 ?_ | refine S1 ?_ | refine S2 ?_ | refine S5 ?_ | refine S7 ?_ | refine S8 ?_ | refine S15 ?_ | refine S16 ?_ | refine S19 ?_ | refine S20 ?_ | refine S21 ?_ | refine S27 ?_ | refine S33 ?_ | refine S45 ?_ | refine S46 ?_ | refine S49 ?_ | refine S63 ?_ | refine S65 ?_ | refine S67 ?_)
      exact ⟨(h'.tok false, tk'), HP.tok_even _, SLx, h', v', F', l', (Fr.refl _ _).add false _, (HP.tok_ge _ _).1, by simp only [HP.tokF]; show _ < 2 * (h'.next + 1); omega, HP.add_same _ _ _⟩
  rintro ⟨Tp, tk1⟩ t hp hTe ⟨h1, v1, F1, l1, fr1, g1, g2, b1⟩
  simp only at hTe F1 g1 g2 b1
  first | simp only [updS] | simp only [updL, Nat.reduceAdd]
  have hbP : IsP base n := by
    rcases hcase with ⟨_, _, _, rfl⟩ | ⟨_, _, _, rfl⟩
    · exact id_isP n
    · exact hlf_isP n
  obtain ⟨a, ha, hav⟩ := hbP.pre (show v < n by omega)
  obtain ⟨b, hb, hbv⟩ := hbP.pre hvn
  have ka := idx_t hn6 hbP ha hav
  have kb := idx_t hn6 hbP hb hbv
  have hab : a ≠ b := fun e => by rw [e, hbv] at hav; omega
  have hvt := vsw_tab hbP hab ha hb hav hbv
  have hlb := tab_len n base
  have e1 : (v : Int) + 1 - 1 = (v : Int) := by omega
  have e2 : ((v + 1 : Nat) : Int) = (v : Int) + 1 := by omega
  rw [e2] at kb
  repeat (first | refine S0 ?_ | refine S1 ?_ | refine S2 ?_ | refine S5 ?_ | refine S7 ?_ | refine S8 ?_ | refine S15 ?_ | refine S16 ?_ | refine S19 ?_ | refine S20 ?_ | refine S21 ?_ | refine S27 ?_ | refine S33 ?_ | refine S45 ?_ | refine S46 ?_ | refine S49 ?_ | refine S63 ?_ | refine S65 ?_ | refine S67 ?_)
  rw [e1]
  refine Scallb (args := [pli (tabN n base), pint v]) ka ?_ (ha := by simp only [evA, upd, Nat.reduceEqDiff, ↓reduceIte, List.map_cons, List.map_nil]; rw [bwT b1]; rfl)
  repeat (first | refine S0 ?_ | refine S1 ?_ | refine S2 ?_ | refine S5 ?_ | refine S7 ?_ | refine S8 ?_ | refine S15 ?_ | refine S16 ?_ | refine S19 ?_ | refine S20 ?_ | refine S21 ?_ | refine S27 ?_ | refine S33 ?_ | refine S45 ?_ | refine S46 ?_ | refine S49 ?_ | refine S63 ?_ | refine S65 ?_ | refine S67 ?_)
  refine Scallb (args := [pli (tabN n base), pint ((v : Int) + 1)]) kb ?_ (ha := by simp only [evA, upd, Nat.reduceEqDiff, ↓reduceIte, List.map_cons, List.map_nil]; rw [bwT b1]; rfl)
  repeat (first | refine S0 ?_ | refine S1 ?_ | refine S2 ?_ | refine S5 ?_ | refine S7 ?_ | refine S8 ?_ | refine S15 ?_ | refine S16 ?_ | refine S19 ?_ | refine S20 ?_ | refine S21 ?_ | refine S27 ?_ | refine S33 ?_ | refine S45 ?_ | refine S46 ?_ | refine S49 ?_ | refine S63 ?_ | refine S65 ?_ | refine S67 ?_)
  rw [e1, hvt]
  obtain ⟨cs, c1, c2, c3⟩ := F1.cs
  have fr2 : Fr [] h1 ((hp.set Tp (ints ((tabN n base).set a ((v : Int) + 1)))).set Tp (ints (tabN n (vsw base v)))) := (fr1.set _ (.inr g1)).set _ (.inr g1)
  have b2 : ((hp.set Tp (ints ((tabN n base).set a ((v : Int) + 1)))).set Tp (ints (tabN n (vsw base v)))).blk Tp = some (ints (tabN n (vsw base v))) := HP.set_same _ _ _
  have g3 : Tp < 2 * ((hp.set Tp (ints ((tabN n base).set a ((v : Int) + 1)))).set Tp (ints (tabN n (vsw base v)))).next := g2
  generalize (hp.set Tp (ints ((tabN n base).set a ((v : Int) + 1)))).set Tp (ints (tabN n (vsw base v))) = H2 at *
  have v2 : H2.blk tf = some [pint n, pint k1, .ref T off 1 m] := by rw [fr2.blk _ l1 (by simp)]; exact v1
  have T2 : H2.blk T = some cs := by rw [fr2.blk _ F1.ltT (by simp)]; exact c1
  have hTe2 := F1.evT
  have n2 := fr2.next
  have hlT := F1.ltT
  repeat (first | refine S0 ?_ | refine S1 ?_ | refine S2 ?_ | refine S5 ?_ | refine S7 ?_ | refine S8 ?_ | refine S15 ?_ | refine S16 ?_ | refine S19 ?_ | refine S20 ?_ | refine S21 ?_ | refine S27 ?_ | refine S33 ?_ | refine S45 ?_ | refine S46 ?_ | refine S49 ?_ | refine S63 ?_ | refine S65 ?_ | refine S67 ?_)
  generalize hHX : HP.set (HP.add (HP.kill H2 T) false _) tf _ = HX
  obtain ⟨T3, hT3⟩ : ∃ T3, T3 = H2.tok false := ⟨_, rfl⟩
  have hT3n : T3 = 2 * H2.next := by rw [hT3, HP.tokF]
  have xv : HX.blk tf = some [pint n, pint k1, .ref T3 0 1 (m + 1)] := by rw [← hHX, hT3]; exact HP.set_same _ _ _
  have xo : ∀ t, t ≠ tf → t ≠ T3 → t ≠ T → HX.blk t = H2.blk t := fun t q1 q2 q3 => by
    rw [← hHX]
    exact (HP.set_other _ _ q1).trans ((HP.add_other _ _ _ (by rw [hT3] at q2; exact q2)).trans (HP.kill_other _ q3))
  have xT : HX.blk T3 = some ((cs.drop off).take m ++ [.ref Tp 0 1 n]) := by
    rw [← hHX]
    refine (HP.set_other _ _ (by omega)).trans ?_
    rw [hT3, show (cs.drop off).take m = (cs.drop off).take (m * 1) by rw [Nat.mul_one]]
    exact HP.add_same _ _ _
  have xn : HX.next = H2.next + 1 := by rw [← hHX]; rfl
  have F3 := F1.app (X := HX) (T2 := T3) (g := vsw base v) c1 hTe (by omega) g1 (by omega) (by omega) (by omega) (by omega) xT (fun j hj => (xo _ (by have := F1.ev j hj; omega) (by have := F1.lt j hj; omega) (F1.ne j hj)).trans (fr2.blk _ (F1.lt j hj) (by simp))) ((xo _ (by omega) (by omega) (by omega)).trans b2)
  have hG : ovr G1 m (vsw base v) = addG n m G x := by
    unfold addG
    rcases hcase with ⟨hx0, _, rfl, rfl⟩ | ⟨hx0, _, rfl, rfl⟩
    · rw [if_pos hx0, hvx]; rfl
    · rw [if_neg (by omega), hvx]; rfl
  have hK : k1 = if 0 < x then k else k - 1 := by
    rcases hcase with ⟨hx0, rfl, _, _⟩ | ⟨hx0, rfl, _, _⟩
    · rw [if_pos hx0]
    · rw [if_neg (by omega)]
  have hk1 : -1000 ≤ k1 ∧ k1 ≤ 1000 := by
    rcases hcase with ⟨hx0, rfl, _, _⟩ | ⟨hx0, rfl, _, _⟩ <;> omega
  rw [hG] at F3
  have ks := settle_e hn (by omega) hk1 (addG_isP h0 hx.1 hx.2) HX xv F3 ho (by omega)
  refine Scalle (args := [.ptr tf 0]) ks ?_
  rintro r h' ⟨k', m', G', T', off', tk', q1, q2, q3, q4⟩
  rw [hK] at q1
  repeat (first | refine S0 ?_ | refine S1 ?_ | refine S2 ?_ | refine S5 ?_ | refine S7 ?_ | refine S8 ?_ | refine S15 ?_ | refine S16 ?_ | refine S19 ?_ | refine S20 ?_ | refine S21 ?_ | refine S27 ?_ | refine S33 ?_ | refine S45 ?_ | refine S46 ?_ | refine S49 ?_ | refine S63 ?_ | refine S65 ?_ | refine S67 ?_)
  exact ⟨.inl rfl, _, rfl, k', m', G', T', off', tk', q1, q2, q3, q4⟩
end Go.Proofs.Ytgjfpmjllpgadaa
