/- slices.Reverse at a slice of the caller's own. No condition of its own. -/
import Derived.Test.YtgjfpmjllpgadaaGGarsideEqualsAY
import Derived.Test.YtgjfpmjllpgadaaGGarsideEqualsAV
import Derived.Test.YtgjfpmjllpgadaaGGarsideEqualsBK
import Derived.Test.YtgjfpmjllpgadaaGGarsideEqualsBC
set_option linter.unusedVariables false
set_option linter.unusedSimpArgs false
namespace Go.Proofs.Ytgjfpmjllpgadaa
open Go.RowKit

set_option maxHeartbeats 4000000 in
set_option maxRecDepth 100000 in
theorem reverse_e {xs : List Int} {tk : Nat} {h : HP} (hx : xs.length ≤ 1000000) (hb : h.blk tk = some (ints xs)) :
    SChE Try.prog 136 [.ref tk 0 1 xs.length] h (fun _ h' => h'.blk tk = some (ints xs.reverse) ∧ Fr [tk] h h') := by
  refine SChE.go {} tok mixed Try.func136 rfl rfl Try.ntmps136 rfl rfl (by kernel_rfl) (fun hw => ?_)
  first | simp only [updS] | simp only [updL, Nat.reduceAdd]
  have htk := hw.lt hb
  repeat (first | refine S0 ?_ | refine S1 ?_ | refine S2 ?_ | refine S3 ?_ | refine S4 ?_ | refine S5 ?_ | refine S6 ?_ | refine S8 ?_ | refine S10 ?_ | refine S11 ?_ | refine S13 ?_ | refine S15 ?_ | refine S16 ?_ | refine S19 ?_ | refine S20 ?_ | refine S21 ?_ | refine S22 ?_ | refine S24 ?_ | refine S27 ?_ | refine S33 ?_ | refine S46 ?_ | refine S65 ?_)
  refine CW.loopS (fun i : Nat × List Int => i.1 ≤ xs.length ∧ i.2.length = xs.length ∧ 2 * (i.1 : Int) ≤ xs.length + 1 ∧ ∀ q, q < xs.length → i.2.getD q 0 = if q < i.1 ∨ xs.length < q + 1 + i.1 then xs.getD (xs.length - 1 - q) 0 else xs.getD q 0)
    (fun i => [(0, .ref tk 0 1 xs.length), (2, pint i.1), (3, pint ((xs.length : Int) - 1 - i.1))]) (fun i hp => hp.blk tk = some (ints i.2) ∧ Fr [tk] h hp) (fun i => xs.length - i.1) (0, xs)
    ⟨⟨Nat.zero_le _, rfl, by simp only; omega, fun q hq => by rw [if_neg (by simp only; omega)]⟩, by simp only [Int.natCast_zero, Int.sub_zero]; exact SLx, HBx, Fr.refl _ _⟩ ?_
  rintro ⟨i, zs⟩ t hp ⟨h1, h2, h2b, h3⟩ ⟨hB, hFr⟩
  simp only at h1 h2 h2b h3 hB
  first | simp only [updS] | simp only [updL, Nat.reduceAdd]
  by_cases hlt : (i : Int) < (xs.length : Int) - 1 - i
  · obtain ⟨j, hj⟩ : ∃ j : Nat, (xs.length : Int) - 1 - i = j := ⟨xs.length - 1 - i, by omega⟩
    rw [hj] at hlt ⊢
    repeat (first | refine S0 ?_ | refine S1 ?_ | refine S2 ?_ | refine S3 ?_ | refine S4 ?_ | refine S5 ?_ | refine S6 ?_ | refine S8 ?_ | refine S10 ?_ | refine S11 ?_ | refine S13 ?_ | refine S15 ?_ | refine S16 ?_ | refine S19 ?_ | refine S20 ?_ | refine S21 ?_ | refine S22 ?_ | refine S24 ?_ | refine S27 ?_ | refine S33 ?_ | refine S46 ?_ | refine S65 ?_)
    refine ⟨(i + 1, (zs.set i (zs.getD j 0)).set j (zs.getD i 0)), ⟨by simp only; omega, by simp [h2], by simp only; omega, fun q hq => ?_⟩, ?_, ⟨?_, ?_⟩, by simp only; omega⟩
    · simp only
      have e1 := h3 i (by omega)
      have e2 := h3 j (by omega)
      rw [if_neg (by omega)] at e1 e2
      by_cases q1 : q = j
      · subst q1
        rw [if_pos (by omega), getD_lt 0 (by simp; omega)]
        simp only [List.getElem_set_self]
        rw [e1, show xs.length - 1 - q = i by omega]
      · by_cases q2 : q = i
        · subst q2
          rw [if_pos (by omega), getD_lt 0 (by simp; omega), List.getElem_set_ne (by omega)]
          simp only [List.getElem_set_self]
          rw [e2, show xs.length - 1 - q = j by omega]
        · rw [getD_lt 0 (by simp; omega), List.getElem_set_ne (by omega), List.getElem_set_ne (by omega), ← getD_lt 0 (by omega), h3 q hq]
          by_cases c : q < i ∨ xs.length < q + 1 + i
          · rw [if_pos c, if_pos (by omega)]
          · rw [if_neg c, if_neg (by omega)]
    · simp only
      rw [show (xs.length : Int) - 1 - ((i + 1 : Nat) : Int) = (j : Int) - 1 by omega]
      exact SLx
    · exact HBx
    · exact (hFr.set _ (.inl (by simp))).set _ (.inl (by simp))
  · have hz : zs = xs.reverse := by
      apply List.ext_getElem
      · simp [h2]
      · intro q g1 g2
        have := h3 q (by omega)
        rw [getD_lt 0 g1] at this
        rw [this, List.getElem_reverse]
        split
        · rw [getD_lt 0 (by omega)]
        · rw [getD_lt 0 (by omega)]
          congr 1; omega
    subst hz
    repeat (first | refine S0 ?_ | refine S1 ?_ | refine S2 ?_ | refine S3 ?_ | refine S4 ?_ | refine S5 ?_ | refine S6 ?_ | refine S8 ?_ | refine S10 ?_ | refine S11 ?_ | refine S13 ?_ | refine S15 ?_ | refine S16 ?_ | refine S19 ?_ | refine S20 ?_ | refine S21 ?_ | refine S22 ?_ | refine S24 ?_ | refine S27 ?_ | refine S33 ?_ | refine S46 ?_ | refine S65 ?_)
    exact ⟨.inl rfl, _, rfl, hB, hFr⟩
end Go.Proofs.Ytgjfpmjllpgadaa

/- (*garside.form).turn and add, garside.formOf: the form of a word. No condition of its own. -/
set_option linter.unusedVariables false
set_option linter.unusedSimpArgs false
namespace Go.Proofs.Ytgjfpmjllpgadaa
open Go.RowKit

/-- the i-th row lies at a new block -/
theorem Fac.put {n m T off i T' : Nat} {tk : Nat → Nat} {G : Fam} {h X : HP} {cs : List PV} {g : Nat → Nat} (H : Fac n m T off tk G h) (hb : h.blk T = some cs) (hi : i < m) (ev : T' % 2 = 0) (hT' : 2 * h.next ≤ T') (hTn : T' < 2 * X.next) (hX : h.next ≤ X.next) (hXT : X.blk T = some (cs.set (off + i) (.ref T' 0 1 n))) (hXb : ∀ j, j < m → X.blk (tk j) = h.blk (tk j)) (hXr : X.blk T' = some (ints (tabN n g))) :
    Fac n m T off (ovr tk i T') (ovr G i g) X := by
  obtain ⟨cs0, c1, c2, c3⟩ := H.cs
  rw [hb] at c1
  cases c1
  have hl := H.ltT
  refine ⟨⟨_, hXT, by rw [List.length_set]; exact c2, fun j hj => ?_⟩, fun j hj => ?_, fun a b ha hb e => ?_, fun j hj => ?_, fun j hj => ?_, H.evT, fun j hj => ?_, by omega⟩
  · by_cases e : j = i
    · rw [e, ovr_same, List.getElem?_set, if_pos rfl, if_pos (by omega)]
    · rw [ovr_ne _ _ e, List.getElem?_set, if_neg (by omega)]; exact c3 j hj
  · by_cases e : j = i
    · rw [e, ovr_same, ovr_same]; exact hXr
    · rw [ovr_ne _ _ e, ovr_ne _ _ e, hXb j hj]; exact H.row j hj
  · by_cases e1 : a = i
    · by_cases e2 : b = i
      · omega
      · rw [e1, ovr_same, ovr_ne _ _ e2] at e
        have := H.lt b hb; omega
    · by_cases e2 : b = i
      · rw [e2, ovr_same, ovr_ne _ _ e1] at e
        have := H.lt a ha; omega
      · rw [ovr_ne _ _ e1, ovr_ne _ _ e2] at e
        exact H.inj a b ha hb e
  · by_cases e : j = i
    · rw [e, ovr_same]; omega
    · rw [ovr_ne _ _ e]; exact H.ne j hj
  · by_cases e : j = i
    · rw [e, ovr_same]; exact ev
    · rw [ovr_ne _ _ e]; exact H.ev j hj
  · by_cases e : j = i
    · rw [e, ovr_same]; exact hTn
    · rw [ovr_ne _ _ e]; have := H.lt j hj; omega
theorem tab_rev (n : Nat) (f : Nat → Nat) : (tabN n f).reverse = tabN n (fun j => f (n - 1 - j)) := by
  apply List.ext_getElem (by simp)
  intro j h1 h2
  simp only [tab_len] at h2
  rw [List.getElem_reverse]
  simp [tabN]
theorem tab_set {n k v : Nat} {F : Nat → Nat} : (tabN n F).set k (v : Int) = tabN n (ovr F k v) := by
  apply List.ext_getElem (by simp)
  intro j h1 h2
  simp only [tab_len] at h2
  rw [List.getElem_set]
  by_cases e : k = j
  · subst e; rw [if_pos rfl]; simp [tabN, ovr_same]
  · rw [if_neg e]
    simp [tabN, ovr_ne _ _ (fun e2 => e e2.symm)]
/-- the first k numbers are turned -/
def trK (n : Nat) (f : Nat → Nat) (k : Nat) : Nat → Nat := fun j => if j < k then trn n f j else f (n - 1 - j)
theorem trK_zero (n : Nat) (f : Nat → Nat) : trK n f 0 = fun j => f (n - 1 - j) := by funext j; unfold trK; rw [if_neg (by omega)]
theorem trK_succ (n : Nat) (f : Nat → Nat) (k : Nat) : ovr (trK n f k) k (trn n f k) = trK n f (k + 1) := by
  funext j
  by_cases e : j = k
  · subst e; rw [ovr_same]; unfold trK; rw [if_pos (by omega)]
  · rw [ovr_ne _ _ e]
    unfold trK
    by_cases h : j < k
    · rw [if_pos h, if_pos (by omega)]
    · rw [if_neg h, if_neg (by omega)]
theorem trK_all (n : Nat) (f : Nat → Nat) : tabN n (trK n f n) = tabN n (trn n f) := tab_ext (fun i hi => by unfold trK; rw [if_pos hi])
/-- the first i factors are turned -/
def trG (n : Nat) (G : Fam) (i : Nat) : Fam := fun j => if j < i then trn n (G j) else G j
theorem trG_zero (n : Nat) (G : Fam) : trG n G 0 = G := by funext j; unfold trG; rw [if_neg (by omega)]
theorem trG_at (n : Nat) (G : Fam) (i : Nat) : trG n G i i = G i := by unfold trG; rw [if_neg (by omega)]
theorem trG_succ (n : Nat) (G : Fam) (i : Nat) : ovr (trG n G i) i (trn n (G i)) = trG n G (i + 1) := by
  funext j
  by_cases e : j = i
  · subst e; rw [ovr_same]; unfold trG; rw [if_pos (by omega)]
  · rw [ovr_ne _ _ e]
    unfold trG
    by_cases h : j < i
    · rw [if_pos h, if_pos (by omega)]
    · rw [if_neg h, if_neg (by omega)]
set_option maxHeartbeats 32000000 in
set_option maxRecDepth 100000 in
theorem turn_e {n m T off tf : Nat} {k0 : Int} {tk : Nat → Nat} {G : Fam} (hn : 2 ≤ n ∧ n ≤ 6) (hm : m ≤ 1000) (h0 : ∀ i, i < m → IsP (G i) n) (h : HP) (hv : h.blk tf = some [pint n, pint k0, .ref T off 1 m]) (hF : Fac n m T off tk G h) (ho : tf % 2 = 1) (hlt : tf < 2 * h.next) :
    SChE Try.prog 147 [.ptr tf 0] h (fun _ h' => ∃ tk', h'.blk tf = some [pint n, pint k0, .ref T off 1 m] ∧ Fac n m T off tk' (fun i => trn n (G i)) h' ∧ tf < 2 * h'.next) := by
  refine SChE.go {} tok mixed Try.func147 rfl rfl Try.ntmps147 rfl rfl (by kernel_rfl) (fun hw => ?_)
  first | simp only [updS] | simp only [updL, Nat.reduceAdd]
  repeat (first | refine S0 ?_ | refine S1 ?_ | refine S2 ?_ | refine S4 ?_ | refine S5 ?_ | refine S6 ?_ | refine S8 ?_ | refine S10 ?_ | refine S11 ?_ | refine S13 ?_ | refine S15 ?_ | refine S16 ?_ | refine S19 ?_ | refine S20 ?_ | refine S21 ?_ | refine S22 ?_ | refine S24 ?_ | refine S27 ?_ | refine S33 ?_ | refine S45 ?_ | refine S46 ?_ | refine S65 ?_ | refine S67 ?_)
  refine CW.loopS (fun i : Nat × (Nat → Nat) => i.1 ≤ m) (fun i => [(0, .ptr tf 0), (10, .ref T off 1 m), (11, pint m), (12, pint i.1)]) (fun i hp => hp.blk tf = some [pint n, pint k0, .ref T off 1 m] ∧ Fac n m T off i.2 (trG n G i.1) hp ∧ tf < 2 * hp.next) (fun i => m - i.1) (0, tk) ⟨Nat.zero_le _, SLx, hv, by rw [trG_zero]; exact hF, hlt⟩ ?_
  rintro ⟨i, tk⟩ t hp hi ⟨bv, bF, bl⟩
  simp only at hi bF
  first | simp only [updS] | simp only [updL, Nat.reduceAdd]
  obtain ⟨cs, c1, c2, c3⟩ := bF.cs
  have hev := bF.evT
  by_cases him : i < m
  · have hrow := bF.row i him
    rw [trG_at] at hrow
    have hPi := h0 i him
    have hl := tab_len n (G i)
    have kc := clone_o (tabN n (G i)) (by rw [hl]; omega)
    rw [hl] at kc
    repeat (first | refine S0 ?_ | refine S1 ?_ | refine S2 ?_ | refine S4 ?_ | refine S5 ?_ | refine S6 ?_ | refine S8 ?_ | refine S10 ?_ | refine S11 ?_ | refine S13 ?_ | refine S15 ?_ | refine S16 ?_ | refine S19 ?_ | refine S20 ?_ | refine S21 ?_ | refine S22 ?_ | refine S24 ?_ | refine S27 ?_ | refine S33 ?_ | refine S45 ?_ | refine S46 ?_ | refine S65 ?_ | refine S67 ?_)
    rw [show off + (i : Int).toNat * 1 = off + i by simp]
    refine AW.ldm EVx (by first | exact Or.inl rfl | exact Or.inr ⟨rfl, HP.tok_even _⟩ | exact Or.inr (Or.inl ⟨rfl, HP.tok_even _⟩) | exact Or.inr (Or.inr ⟨rfl, HP.tok_odd _⟩) | exact Or.inr (Or.inl rfl) | exact Or.inr (Or.inr (Or.inl rfl)) | exact Or.inr (Or.inr (Or.inr (Or.inl ⟨rfl, HP.tok_odd _⟩))) | exact Or.inr (Or.inr (Or.inr (Or.inr ⟨rfl, HP.tok_even _⟩))) | exact Or.inr (Or.inr (Or.inr (Or.inr ⟨rfl, by assumption⟩))) | exact Or.inr ⟨rfl, by assumption⟩ | exact Or.inr (Or.inl ⟨rfl, by assumption⟩) | exact Or.inr (Or.inr ⟨rfl, by assumption⟩) | exact Or.inr (Or.inr (Or.inr (Or.inl ⟨rfl, by assumption⟩))) | exact Or.inr (Or.inr (Or.inl ⟨rfl, HP.tok_odd _⟩)) | exact Or.inr (Or.inr (Or.inl ⟨rfl, by assumption⟩)) | exact Or.inr (Or.inr (Or.inr rfl)) | exact Or.inr (Or.inr rfl) | exact Or.inr rfl) rfl c1 (c3 i him) ?_
    repeat (first | refine S0 ?_ | refine S1 ?_ | refine S2 ?_ | refine S4 ?_ | refine S5 ?_ | refine S6 ?_ | refine S8 ?_ | refine S10 ?_ | refine S11 ?_ | refine S13 ?_ | refine S15 ?_ | refine S16 ?_ | refine S19 ?_ | refine S20 ?_ | refine S21 ?_ | refine S22 ?_ | refine S24 ?_ | refine S27 ?_ | refine S33 ?_ | refine S45 ?_ | refine S46 ?_ | refine S65 ?_ | refine S67 ?_)
    refine Scallob (args := [pli (tabN n (G i))]) kc ?_ (ha := by simp only [evA, upd, Nat.reduceEqDiff, ↓reduceIte, List.map_cons, List.map_nil]; rw [bwT hrow]) (hf := ints_bare _)
    repeat (first | refine S0 ?_ | refine S1 ?_ | refine S2 ?_ | refine S4 ?_ | refine S5 ?_ | refine S6 ?_ | refine S8 ?_ | refine S10 ?_ | refine S11 ?_ | refine S13 ?_ | refine S15 ?_ | refine S16 ?_ | refine S19 ?_ | refine S20 ?_ | refine S21 ?_ | refine S22 ?_ | refine S24 ?_ | refine S27 ?_ | refine S33 ?_ | refine S45 ?_ | refine S46 ?_ | refine S65 ?_ | refine S67 ?_)
    obtain ⟨T', hT'⟩ : ∃ T', T' = hp.tok false := ⟨_, rfl⟩
    have hTn : T' = 2 * hp.next := by rw [hT', HP.tokF]
    have hTe : T' % 2 = 0 := by omega
    rw [← hT']
    obtain ⟨X, hX⟩ : ∃ X, X = hp.add false (ints (tabN n (G i))) := ⟨_, rfl⟩
    have hXT : X.blk T' = some (ints (tabN n (G i))) := by rw [hX, hT']; exact HP.add_same _ _ _
    have hXf : Fr [T'] hp X := by rw [hX]; exact (Fr.refl _ _).add false _
    have hXn : T' < 2 * X.next := by rw [hX]; show T' < 2 * (hp.next + 1); omega
    have kr := reverse_e (h := X) (tk := T') (xs := tabN n (G i)) (by rw [hl]; omega) hXT
    rw [hl, tab_rev] at kr
    rw [← hX]
    clear hX
    refine Scalle (args := [.ref T' 0 1 n]) kr ?_
    rintro r X1 ⟨x1, f1⟩
    have hf1 : Fr [T'] hp X1 := hXf.trans f1 (by simp)
    have hn1 : T' < 2 * X1.next := by have := f1.next; omega
    clear kr hXT hXf hXn f1
    repeat (first | refine S0 ?_ | refine S1 ?_ | refine S2 ?_ | refine S4 ?_ | refine S5 ?_ | refine S6 ?_ | refine S8 ?_ | refine S10 ?_ | refine S11 ?_ | refine S13 ?_ | refine S15 ?_ | refine S16 ?_ | refine S19 ?_ | refine S20 ?_ | refine S21 ?_ | refine S22 ?_ | refine S24 ?_ | refine S27 ?_ | refine S33 ?_ | refine S45 ?_ | refine S46 ?_ | refine S65 ?_ | refine S67 ?_)
    refine CW.loopS (fun k : Nat => k ≤ n) (fun k => [(0, .ptr tf 0), (2, pint i), (4, .ref T' 0 1 n), (10, .ref T off 1 m), (11, pint m), (12, pint i), (21, .ref T' 0 1 n), (22, pint n), (23, pint k)]) (fun k hq => hq.blk T' = some (ints (tabN n (trK n (G i) k))) ∧ Fr [T'] hp hq ∧ T' < 2 * hq.next) (fun k => n - k) 0 ⟨Nat.zero_le _, SLx, by rw [trK_zero]; exact x1, hf1, hn1⟩ ?_
    clear x1 hf1 hn1 t
    rintro k t hq hk2 ⟨y1, y2, y3⟩
    first | simp only [updS] | simp only [updL, Nat.reduceAdd]
    have yv : hq.blk tf = some [pint n, pint k0, .ref T off 1 m] := by rw [y2.blk _ bl (by simp only [List.mem_singleton]; omega)]; exact bv
    have hlK := tab_len n (trK n (G i) k)
    by_cases hkn : k < n
    · have hg : (tabN n (trK n (G i) k)).getD k 0 = ((G i (n - 1 - k) : Nat) : Int) := by rw [tab_getI hkn]; unfold trK; rw [if_neg (by omega)]
      have hb := hPi.lt (n - 1 - k) (by omega)
      have hv : (n : Int) - 1 - ((G i (n - 1 - k) : Nat) : Int) = ((trn n (G i) k : Nat) : Int) := by unfold trn; omega
      repeat (first | refine S0 ?_ | refine S1 ?_ | refine S2 ?_ | refine S4 ?_ | refine S5 ?_ | refine S6 ?_ | refine S8 ?_ | refine S10 ?_ | refine S11 ?_ | refine S13 ?_ | refine S15 ?_ | refine S16 ?_ | refine S19 ?_ | refine S20 ?_ | refine S21 ?_ | refine S22 ?_ | refine S24 ?_ | refine S27 ?_ | refine S33 ?_ | refine S45 ?_ | refine S46 ?_ | refine S65 ?_ | refine S67 ?_)
      rw [hg]
      repeat (first | refine S0 ?_ | refine S1 ?_ | refine S2 ?_ | refine S4 ?_ | refine S5 ?_ | refine S6 ?_ | refine S8 ?_ | refine S10 ?_ | refine S11 ?_ | refine S13 ?_ | refine S15 ?_ | refine S16 ?_ | refine S19 ?_ | refine S20 ?_ | refine S21 ?_ | refine S22 ?_ | refine S24 ?_ | refine S27 ?_ | refine S33 ?_ | refine S45 ?_ | refine S46 ?_ | refine S65 ?_ | refine S67 ?_)
      rw [hv, tab_set, trK_succ]
      exact ⟨k + 1, hkn, SLx, ⟨HP.set_same _ _ _, y2.set _ (.inl (by simp)), y3⟩, by omega⟩
    · have ekn : k = n := by omega
      rw [ekn, trK_all] at y1
      repeat (first | refine S0 ?_ | refine S1 ?_ | refine S2 ?_ | refine S4 ?_ | refine S5 ?_ | refine S6 ?_ | refine S8 ?_ | refine S10 ?_ | refine S11 ?_ | refine S13 ?_ | refine S15 ?_ | refine S16 ?_ | refine S19 ?_ | refine S20 ?_ | refine S21 ?_ | refine S22 ?_ | refine S24 ?_ | refine S27 ?_ | refine S33 ?_ | refine S45 ?_ | refine S46 ?_ | refine S65 ?_ | refine S67 ?_)
      rw [show off + (i : Int).toNat * 1 = off + i by simp]
      have yT : hq.blk T = some cs := by rw [y2.blk _ bF.ltT (by simp only [List.mem_singleton]; have := bF.ltT; omega)]; exact c1
      have hnx := y2.next
      refine AW.stR (r := cs.set (off + i) (.ref T' 0 1 n)) (by simp only [evA, upd, putA, ofConst, ofConst.ofCell, Nat.reduceEqDiff, ↓reduceIte, List.map_cons, List.map_nil, List.toList_toArray]; first | done | rfl) (by first | exact Or.inl rfl | exact Or.inr ⟨rfl, HP.tok_even _⟩ | exact Or.inr (Or.inl ⟨rfl, HP.tok_even _⟩) | exact Or.inr (Or.inr ⟨rfl, HP.tok_odd _⟩) | exact Or.inr (Or.inl rfl) | exact Or.inr (Or.inr (Or.inl rfl)) | exact Or.inr (Or.inr (Or.inr (Or.inl ⟨rfl, HP.tok_odd _⟩))) | exact Or.inr (Or.inr (Or.inr (Or.inr ⟨rfl, HP.tok_even _⟩))) | exact Or.inr (Or.inr (Or.inr (Or.inr ⟨rfl, by assumption⟩))) | exact Or.inr ⟨rfl, by assumption⟩ | exact Or.inr (Or.inl ⟨rfl, by assumption⟩) | exact Or.inr (Or.inr ⟨rfl, by assumption⟩) | exact Or.inr (Or.inr (Or.inr (Or.inl ⟨rfl, by assumption⟩))) | exact Or.inr (Or.inr (Or.inl ⟨rfl, HP.tok_odd _⟩)) | exact Or.inr (Or.inr (Or.inl ⟨rfl, by assumption⟩)) | exact Or.inr (Or.inr (Or.inr rfl)) | exact Or.inr (Or.inr rfl) | exact Or.inr rfl) (by simp only [evA, upd, putA, ofConst, ofConst.ofCell, Nat.reduceEqDiff, ↓reduceIte, List.map_cons, List.map_nil, List.toList_toArray]; first | done | rfl) rfl yT (by omega) (by first | rfl | (simp only [PV.one, pint, pfr]; done)) rfl ?_
      repeat (first | refine S0 ?_ | refine S1 ?_ | refine S2 ?_ | refine S4 ?_ | refine S5 ?_ | refine S6 ?_ | refine S8 ?_ | refine S10 ?_ | refine S11 ?_ | refine S13 ?_ | refine S15 ?_ | refine S16 ?_ | refine S19 ?_ | refine S20 ?_ | refine S21 ?_ | refine S22 ?_ | refine S24 ?_ | refine S27 ?_ | refine S33 ?_ | refine S45 ?_ | refine S46 ?_ | refine S65 ?_ | refine S67 ?_)
      refine ⟨(i + 1, ovr tk i T'), by simp only; omega, SLx, ⟨(HP.set_other _ _ (by omega)).trans yv, ?_, by show tf < 2 * hq.next; omega⟩, by simp only; omega⟩
      have := bF.put (X := hq.set T (cs.set (off + i) (.ref T' 0 1 n))) (g := trn n (G i)) c1 him hTe (by omega) y3 (by show hp.next ≤ hq.next; omega) (HP.set_same _ _ _) (fun j hj => (HP.set_other _ _ (bF.ne j hj)).trans (y2.blk _ (bF.lt j hj) (by simp only [List.mem_singleton]; have := bF.lt j hj; omega))) ((HP.set_other _ _ (by have := bF.ltT; omega)).trans y1)
      rw [trG_succ] at this
      exact this
  · obtain rfl : i = m := by omega
    repeat (first | refine S0 ?_ | refine S1 ?_ | refine S2 ?_ | refine S4 ?_ | refine S5 ?_ | refine S6 ?_ | refine S8 ?_ | refine S10 ?_ | refine S11 ?_ | refine S13 ?_ | refine S15 ?_ | refine S16 ?_ | refine S19 ?_ | refine S20 ?_ | refine S21 ?_ | refine S22 ?_ | refine S24 ?_ | refine S27 ?_ | refine S33 ?_ | refine S45 ?_ | refine S46 ?_ | refine S65 ?_ | refine S67 ?_)
    refine ⟨.inl rfl, _, rfl, tk, bv, bF.cong (fun j hj => ?_), bl⟩
    unfold trG; rw [if_pos hj]
end Go.Proofs.Ytgjfpmjllpgadaa
