/- slices.Index and slices.Contains at lists of ints. No condition of its own. -/
import Derived.Test.YtgjfpmjllpgadaaGGarsideEqualsAV
import Derived.Test.YtgjfpmjllpgadaaGGarsideEqualsBH
set_option linter.unusedVariables false
set_option linter.unusedSimpArgs false
namespace Go.Proofs.Ytgjfpmjllpgadaa
open Go.RowKit

set_option maxHeartbeats 2000000 in
set_option maxRecDepth 100000 in
theorem index_some {xs : List Int} {x : Int} (hx : xs.length ≤ 1000000) {m : Nat} (hm : m < xs.length) (h : ∀ k, k < m → xs.getD k 0 ≠ x) (h2 : xs.getD m 0 = x) : SC Try.prog 98 [pli xs, pint x] (pint m) := by
  refine SC.go {} tok mixed Try.func98 rfl rfl Try.ntmps98 rfl rfl (by kernel_rfl) ?_
  first | simp only [updS] | simp only [updL, Nat.reduceAdd]
  repeat (first | refine S0 ?_ | refine S1 ?_ | refine S2 ?_ | refine S4 ?_ | refine S5 ?_ | refine S6 ?_ | refine S7 ?_ | refine S8 ?_ | refine S9 ?_ | refine S10 ?_ | refine S11 ?_ | refine S12 ?_ | refine S13 ?_ | refine S15 ?_ | refine S16 ?_ | refine S19 ?_ | refine S20 ?_ | refine S21 ?_ | refine S22 ?_ | refine S23 ?_ | refine S25 ?_ | refine S26 ?_ | refine S28 ?_ | refine S32 ?_)
  refine CW.loopS (fun k : Nat => k ≤ m) (fun k => [(0, pli xs), (1, pint x), (7, pint xs.length), (8, pint k)]) (fun _ _ => True) (fun k => xs.length - k) 0 ⟨by omega, SLx, trivial⟩ ?_
  rintro k t hp hk _
  first | simp only [updS] | simp only [updL, Nat.reduceAdd]
  by_cases hk2 : k < m
  · have hs := h k hk2
    repeat (first | refine S0 ?_ | refine S1 ?_ | refine S2 ?_ | refine S4 ?_ | refine S5 ?_ | refine S6 ?_ | refine S7 ?_ | refine S8 ?_ | refine S9 ?_ | refine S10 ?_ | refine S11 ?_ | refine S12 ?_ | refine S13 ?_ | refine S15 ?_ | refine S16 ?_ | refine S19 ?_ | refine S20 ?_ | refine S21 ?_ | refine S22 ?_ | refine S23 ?_ | refine S25 ?_ | refine S26 ?_ | refine S28 ?_ | refine S32 ?_)
    exact ⟨k + 1, by omega, SLx, trivial, by omega⟩
  · obtain rfl : k = m := by omega
    repeat (first | refine S0 ?_ | refine S1 ?_ | refine S2 ?_ | refine S4 ?_ | refine S5 ?_ | refine S6 ?_ | refine S7 ?_ | refine S8 ?_ | refine S9 ?_ | refine S10 ?_ | refine S11 ?_ | refine S12 ?_ | refine S13 ?_ | refine S15 ?_ | refine S16 ?_ | refine S19 ?_ | refine S20 ?_ | refine S21 ?_ | refine S22 ?_ | refine S23 ?_ | refine S25 ?_ | refine S26 ?_ | refine S28 ?_ | refine S32 ?_)
    exact ⟨.inr rfl, .cl rfl⟩
end Go.Proofs.Ytgjfpmjllpgadaa

/- garside.tighten: crossings go from a factor to the one before it. No condition of its own. -/
set_option linter.unusedVariables false
set_option linter.unusedSimpArgs false
namespace Go.Proofs.Ytgjfpmjllpgadaa
open Go.RowKit

theorem bwT {h : HP} {t n : Nat} {f : Nat → Nat} (hb : h.blk t = some (ints (tabN n f))) : bw h (.ref t 0 1 n) = pli (tabN n f) := by
  have hl : (tabN n f).length = n := tab_len n f
  have := bwI (h := h) (tk := t) (xs := tabN n f) hb
  rwa [hl] at this
theorem tab_fault {n : Nat} {f : Nat → Nat} (h : IsP f n) (h9 : n ≤ 9) : permFault (tabN n f) = 0 := by
  have hp := h.pm
  refine permFault_ok (by rw [tab_len]; exact h9) fun j hj => ?_
  have h1 := hp.rng j hj
  rw [getD_lt 0 hj] at h1
  refine pfAt_zero hj h1 fun hm => ?_
  obtain ⟨i, hi, e⟩ := List.mem_iff_getElem.1 hm
  have hi' : i < j := by simp at hi; omega
  rw [List.getElem_take] at e
  exact List.pairwise_iff_getElem.1 hp.nd i j (by omega) hj hi' e
theorem gn_tab {n : Nat} {f : Nat → Nat} (h : IsP f n) (h9 : n ≤ 9) {i : Nat} (hi : i < n) : gn (tabN n f) i < n ∧ f (gn (tabN n f) i) = i := by
  have hp := h.pm
  have ho := (order_bd (tab_fault h h9)).1
  have h1 := gn_lt hp i (by rw [tab_len]; exact hi)
  rw [tab_len] at h1
  have h2 := fn_gn hp ho (by rw [tab_len]; exact hi)
  rw [fn_tab h1] at h2
  exact ⟨h1, h2⟩
theorem lsB_move {n : Nat} {a b : Nat → Nat} (hn : n ≤ 6) (ha : IsP a n) {c : Nat} (hc : c + 1 < n) : lsB n (tabN n a) (tabN n b) c = true ↔ CanMove n a b c := by
  unfold lsB
  rw [tab_getI hc, tab_getI (show c < n by omega), Bool.and_eq_true, decide_eq_true_eq, decide_eq_true_eq]
  obtain ⟨p1, p2⟩ := gn_tab ha (by omega) (show c < n by omega)
  obtain ⟨q1, q2⟩ := gn_tab ha (by omega) hc
  constructor
  · rintro ⟨h1, h2⟩
    exact ⟨hc, by omega, _, _, h2, q1, p2, q2⟩
  · rintro ⟨_, h1, x, y, hxy, hy, hx1, hy1⟩
    have e1 := ha.inj x _ (by omega) p1 (by rw [hx1, p2])
    have e2 := ha.inj y _ hy q1 (by rw [hy1, q2])
    exact ⟨by omega, by omega⟩
theorem tgt_tgF {n : Nat} {a b : Nat → Nat} (hn : n ≤ 6) (ha : IsP a n) : tgt n (tabN n a) (tabN n b) = true ↔ tgF n a b := by
  unfold tgt tgF
  rw [List.all_eq_true]
  constructor
  · intro h c hc
    have := h c (List.mem_range.2 (by have := hc.1; omega))
    rw [(lsB_move hn ha hc.1).2 hc] at this; cases this
  · intro h i hi
    have hi2 : i + 1 < n := by have := List.mem_range.1 hi; omega
    cases hh : lsB n (tabN n a) (tabN n b) i with
    | false => rfl
    | true => exact absurd ((lsB_move hn ha hi2).1 hh) (h i)
theorem loose_t {n : Nat} {a b : Nat → Nat} (hn : 2 ≤ n ∧ n ≤ 6) (ha : IsP a n) (hb : IsP b n) : ∃ z : Int, SC Try.prog 111 [pli (tabN n a), pli (tabN n b)] (pint z) ∧ ((∃ c : Nat, z = c ∧ CanMove n a b c) ∨ (z = -1 ∧ tgF n a b)) := by
  obtain ⟨z, h1, h2⟩ := loose_i hn (tab_fault ha (by omega)) (tab_len n a) (tab_len n b)
  refine ⟨z, h1, ?_⟩
  rcases h2 with ⟨c, rfl, h3, h4⟩ | ⟨rfl, h3⟩
  · exact .inl ⟨c, rfl, (lsB_move hn.2 ha h3).1 h4⟩
  · exact .inr ⟨rfl, (tgt_tgF hn.2 ha).1 h3⟩
theorem idx_t {n c x : Nat} {a : Nat → Nat} (hn : n ≤ 6) (ha : IsP a n) (hx : x < n) (h : a x = c) : SC Try.prog 98 [pli (tabN n a), pint c] (pint x) :=
  index_some (by rw [tab_len]; omega) (by rw [tab_len]; exact hx) (fun k hk e => by
    rw [tab_getI (by omega)] at e
    have := ha.inj k x (by omega) hx (by omega)
    omega) (by rw [tab_getI hx, h])
/-- the values c and c + 1 change their places -/
theorem vsw_tab {n c x y : Nat} {a : Nat → Nat} (ha : IsP a n) (hxy : x ≠ y) (hx : x < n) (hy : y < n) (hx1 : a x = c) (hy1 : a y = c + 1) : ((tabN n a).set x ((c : Int) + 1)).set y (c : Int) = tabN n (vsw a c) := by
  apply List.ext_getElem (by simp)
  intro j g1 g2
  simp only [tab_len] at g2
  rw [List.getElem_set, List.getElem_set]
  have e0 : (tabN n (vsw a c))[j] = ((vsw a c j : Nat) : Int) := by simp [tabN]
  rw [e0]
  unfold vsw
  by_cases e1 : y = j
  · subst e1; rw [if_pos rfl, hy1, tau_at1]
  · rw [if_neg e1]
    by_cases e2 : x = j
    · subst e2; rw [if_pos rfl, hx1, tau_at]; omega
    · rw [if_neg e2, tau_ot (fun h1 => e2 (ha.inj x j hx g2 (by omega))) (fun h1 => e1 (ha.inj y j hy g2 (by omega)))]
      simp [tabN]
set_option maxHeartbeats 16000000 in
set_option maxRecDepth 100000 in
theorem tighten_e {n : Nat} {a b : Nat → Nat} (hn : 2 ≤ n ∧ n ≤ 6) (ha : IsP a n) (hb : IsP b n) {ta tb : Nat} (eva : ta % 2 = 0) (evb : tb % 2 = 0) (hne : ta ≠ tb) (h : HP) (h1 : h.blk ta = some (ints (tabN n a))) (h2 : h.blk tb = some (ints (tabN n b))) :
    SChE Try.prog 162 [.ref ta 0 1 n, .ref tb 0 1 n] h (fun r h' => ∃ a' b' mv, r = .sc (.bool mv) ∧ TM n a b a' b' mv ∧ tgF n a' b' ∧ h'.blk ta = some (ints (tabN n a')) ∧ h'.blk tb = some (ints (tabN n b')) ∧ Fr [ta, tb] h h') := by
  have hn6 := hn.2
  obtain ⟨z0, k0, hz0⟩ := loose_t hn ha hb
  refine SChE.go {} tok mixed Try.func162 rfl rfl Try.ntmps162 rfl rfl (by kernel_rfl) (fun hw => ?_)
  first | simp only [updS] | simp only [updL, Nat.reduceAdd]
  repeat (first | refine S0 ?_ | refine S1 ?_ | refine S2 ?_ | refine S3 ?_ | refine S4 ?_ | refine S5 ?_ | refine S6 ?_ | refine S7 ?_ | refine S8 ?_ | refine S10 ?_ | refine S11 ?_ | refine S13 ?_ | refine S15 ?_ | refine S16 ?_ | refine S19 ?_ | refine S20 ?_ | refine S22 ?_ | refine S27 ?_ | refine S32 ?_ | refine S46 ?_ | refine S65 ?_)
  refine Scallb (args := [pli (tabN n a), pli (tabN n b)]) k0 ?_ (ha := by simp only [evA, upd, Nat.reduceEqDiff, ↓reduceIte, List.map_cons, List.map_nil]; rw [bwT h1, bwT h2])
  repeat (first | refine S0 ?_ | refine S1 ?_ | refine S2 ?_ | refine S3 ?_ | refine S4 ?_ | refine S5 ?_ | refine S6 ?_ | refine S7 ?_ | refine S8 ?_ | refine S10 ?_ | refine S11 ?_ | refine S13 ?_ | refine S15 ?_ | refine S16 ?_ | refine S19 ?_ | refine S20 ?_ | refine S22 ?_ | refine S27 ?_ | refine S32 ?_ | refine S46 ?_ | refine S65 ?_)
  refine CW.loopS (fun i : (Nat → Nat) × (Nat → Nat) × Bool × Int => TM n a b i.1 i.2.1 i.2.2.1 ∧ ((∃ c : Nat, i.2.2.2 = c ∧ CanMove n i.1 i.2.1 c) ∨ (i.2.2.2 = -1 ∧ tgF n i.1 i.2.1))) (fun i => [(0, .ref ta 0 1 n), (1, .ref tb 0 1 n), (5, .sc (.bool i.2.2.1)), (6, pint i.2.2.2)]) (fun i hp => hp.blk ta = some (ints (tabN n i.1)) ∧ hp.blk tb = some (ints (tabN n i.2.1)) ∧ Fr [ta, tb] h hp) (fun i => mu (tabN n i.2.1)) (a, b, false, z0) ⟨⟨.refl, hz0⟩, SLx, h1, h2, Fr.refl _ _⟩ ?_
  rintro ⟨a', b', mv, z⟩ t hp ⟨hT, hz⟩ ⟨b1, b2, hf⟩
  simp only at hT hz b1 b2
  obtain ⟨pa, pb⟩ := hT.isP ha hb
  first | simp only [updS] | simp only [updL, Nat.reduceAdd]
  rcases hz with ⟨c, rfl, hm⟩ | ⟨rfl, ht⟩
  · obtain ⟨pa', pb'⟩ := hm.isP pa pb
    have hT' := hT.snoc hm
    obtain ⟨hc, hd, x, y, hxy, hy, hx1, hy1⟩ := hm
    have kx := idx_t hn6 pa (show x < n by omega) hx1
    have ky := idx_t hn6 pa hy hy1
    obtain ⟨z', kl, hz'⟩ := loose_t hn pa' pb'
    have hla : (tabN n a').length = n := tab_len n a'
    have hlb : (tabN n b').length = n := tab_len n b'
    have ec : ((c : Int) + 1).toNat = c + 1 := by omega
    have hsw := tab_swp (f := b') hc
    unfold swp at hsw
    have hvs := vsw_tab pa (show x ≠ y by omega) (show x < n by omega) hy hx1 hy1
    have hmu := mu_psw pb hn6 hc hd
    have e1 : ((c + 1 : Nat) : Int) = (c : Int) + 1 := by omega
    rw [e1] at ky
    repeat (first | refine S0 ?_ | refine S1 ?_ | refine S2 ?_ | refine S3 ?_ | refine S4 ?_ | refine S5 ?_ | refine S6 ?_ | refine S7 ?_ | refine S8 ?_ | refine S10 ?_ | refine S11 ?_ | refine S13 ?_ | refine S15 ?_ | refine S16 ?_ | refine S19 ?_ | refine S20 ?_ | refine S22 ?_ | refine S27 ?_ | refine S32 ?_ | refine S46 ?_ | refine S65 ?_)
    rw [ec, hsw]
    have B1 : ((hp.set tb (ints ((tabN n b').set c ((tabN n b').getD (c + 1) 0)))).set tb (ints (tabN n (psw b' c)))).blk ta = some (ints (tabN n a')) := (HP.set_other _ _ hne).trans ((HP.set_other _ _ hne).trans b1)
    have B2 : ((hp.set tb (ints ((tabN n b').set c ((tabN n b').getD (c + 1) 0)))).set tb (ints (tabN n (psw b' c)))).blk tb = some (ints (tabN n (psw b' c))) := HP.set_same _ _ _
    have F1 : Fr [ta, tb] h ((hp.set tb (ints ((tabN n b').set c ((tabN n b').getD (c + 1) 0)))).set tb (ints (tabN n (psw b' c)))) := (hf.set _ (.inl (by simp))).set _ (.inl (by simp))
    generalize (hp.set tb (ints ((tabN n b').set c ((tabN n b').getD (c + 1) 0)))).set tb (ints (tabN n (psw b' c))) = H at *
    refine Scallb (args := [pli (tabN n a'), pint c]) kx ?_ (ha := by simp only [evA, upd, Nat.reduceEqDiff, ↓reduceIte, List.map_cons, List.map_nil]; rw [bwT B1]; rfl)
    repeat (first | refine S0 ?_ | refine S1 ?_ | refine S2 ?_ | refine S3 ?_ | refine S4 ?_ | refine S5 ?_ | refine S6 ?_ | refine S7 ?_ | refine S8 ?_ | refine S10 ?_ | refine S11 ?_ | refine S13 ?_ | refine S15 ?_ | refine S16 ?_ | refine S19 ?_ | refine S20 ?_ | refine S22 ?_ | refine S27 ?_ | refine S32 ?_ | refine S46 ?_ | refine S65 ?_)
    refine Scallb (args := [pli (tabN n a'), pint ((c : Int) + 1)]) ky ?_ (ha := by simp only [evA, upd, Nat.reduceEqDiff, ↓reduceIte, List.map_cons, List.map_nil]; rw [bwT B1]; rfl)
    repeat (first | refine S0 ?_ | refine S1 ?_ | refine S2 ?_ | refine S3 ?_ | refine S4 ?_ | refine S5 ?_ | refine S6 ?_ | refine S7 ?_ | refine S8 ?_ | refine S10 ?_ | refine S11 ?_ | refine S13 ?_ | refine S15 ?_ | refine S16 ?_ | refine S19 ?_ | refine S20 ?_ | refine S22 ?_ | refine S27 ?_ | refine S32 ?_ | refine S46 ?_ | refine S65 ?_)
    rw [hvs]
    refine Scallb (args := [pli (tabN n (vsw a' c)), pli (tabN n (psw b' c))]) kl ?_ (ha := by simp only [evA, upd, Nat.reduceEqDiff, ↓reduceIte, List.map_cons, List.map_nil]; rw [bwT (HP.set_same _ _ _), bwT ((HP.set_other _ _ (fun e => hne e.symm)).trans ((HP.set_other _ _ (fun e => hne e.symm)).trans B2))])
    repeat (first | refine S0 ?_ | refine S1 ?_ | refine S2 ?_ | refine S3 ?_ | refine S4 ?_ | refine S5 ?_ | refine S6 ?_ | refine S7 ?_ | refine S8 ?_ | refine S10 ?_ | refine S11 ?_ | refine S13 ?_ | refine S15 ?_ | refine S16 ?_ | refine S19 ?_ | refine S20 ?_ | refine S22 ?_ | refine S27 ?_ | refine S32 ?_ | refine S46 ?_ | refine S65 ?_)
    exact ⟨(vsw a' c, psw b' c, true, z'), ⟨hT', hz'⟩, SLx, ⟨HP.set_same _ _ _, (HP.set_other _ _ (fun e => hne e.symm)).trans ((HP.set_other _ _ (fun e => hne e.symm)).trans B2), (F1.set _ (.inl (by simp))).set _ (.inl (by simp))⟩, hmu⟩
  · repeat (first | refine S0 ?_ | refine S1 ?_ | refine S2 ?_ | refine S3 ?_ | refine S4 ?_ | refine S5 ?_ | refine S6 ?_ | refine S7 ?_ | refine S8 ?_ | refine S10 ?_ | refine S11 ?_ | refine S13 ?_ | refine S15 ?_ | refine S16 ?_ | refine S19 ?_ | refine S20 ?_ | refine S22 ?_ | refine S27 ?_ | refine S32 ?_ | refine S46 ?_ | refine S65 ?_)
    exact ⟨.inr rfl, _, ⟨_, rfl, rfl⟩, a', b', mv, rfl, hT, ht, b1, b2, hf⟩
end Go.Proofs.Ytgjfpmjllpgadaa
