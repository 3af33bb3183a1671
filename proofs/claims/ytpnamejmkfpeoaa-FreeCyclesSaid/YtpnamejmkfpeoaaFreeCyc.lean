/- Roots of words: plain facts. No condition of its own. -/
import Derived.Test.YtpnamejmkfpeoaaFreeF
set_option linter.unusedVariables false
namespace Go.Proofs.Ytpnamejmkfpeoaa

/-- a list by its elements -/
def tbl (n : Nat) (G : Nat → Int) : List Int := (List.range n).map G
@[simp] theorem tbl_length (n : Nat) (G : Nat → Int) : (tbl n G).length = n := by simp [tbl]
theorem tbl_get {n : Nat} {G : Nat → Int} {i : Nat} (h : i < n) : (tbl n G).getD i 0 = G i := by simp [tbl, List.getD, h]
theorem tbl_eq {n : Nat} {G : Nat → Int} {c : List Int} (h : c.length = n) (hg : ∀ i, i < n → c.getD i 0 = G i) : c = tbl n G := by
  apply List.ext_getElem (by simp [h])
  intro i h1 h2
  rw [← getD_lt 0 h1, ← getD_lt 0 h2, hg i (by omega), tbl_get (by omega)]
theorem tbl_congr {n : Nat} {G G' : Nat → Int} (h : ∀ i, i < n → G i = G' i) : tbl n G = tbl n G' := tbl_eq (by simp) (fun i hi => by rw [tbl_get hi, h i hi])
/-- d, over and over, up to the length n -/
def repT (d : List Int) (n : Nat) : List Int := tbl n (fun i => d.getD (i % d.length) 0)

theorem rd_get : ∀ {l : List Int}, Rd l → ∀ i, i + 1 < l.length → l.getD (i + 1) 0 ≠ -(l.getD i 0)
  | [], _, i, h => by simp at h
  | [_], _, i, h => by simp at h
  | x :: y :: l, hr, 0, _ => by simpa using hr.1
  | x :: y :: l, hr, i + 1, h => by
    have := rd_get hr.2 i (by simpa using h)
    simpa using this
theorem get_rd : ∀ {l : List Int}, (∀ i, i + 1 < l.length → l.getD (i + 1) 0 ≠ -(l.getD i 0)) → Rd l
  | [], _ => trivial
  | [_], _ => trivial
  | x :: y :: l, h => ⟨by simpa using h 0 (by simp), get_rd (l := y :: l) (fun i hi => by simpa using h (i + 1) (by simpa using hi))⟩
theorem red_rd {l : List Int} (h : Rd l) : red l = l := by
  unfold red
  rw [foldl_rd l [] (.inr ⟨rfl, h⟩)]
  rfl
theorem rd_red (w : List Int) : Rd (red w) := by rw [red_short]; exact rd_short w
theorem inn_get {w : List Int} {i : Nat} (h : i < w.length - 2) : (inn w).getD i 0 = w.getD (i + 1) 0 := by
  rw [getD_lt 0 (by rw [inn_len]; exact h), getD_lt 0 (by omega)]
  simp [inn]
theorem peel_get : ∀ (n : Nat) (w : List Int), w.length ≤ n → ∀ i, i < peel w → w.getD i 0 = -(w.getD (w.length - 1 - i) 0)
  | 0, w, h, i, hi => by
    have := peel_le w; omega
  | n + 1, w, h, i, hi => by
    rw [peel_step] at hi
    split at hi
    · rename_i hp
      cases i with
      | zero => exact hp.2
      | succ i =>
        have h2 := hp.1
        have hl := inn_len w
        have := peel_le (inn w)
        have h3 := peel_get n (inn w) (by omega) i (by omega)
        rw [inn_get (by omega), inn_get (by omega), hl] at h3
        rw [h3]
        congr 2
        omega
    · omega
theorem invL_get {w : List Int} {i : Nat} (h : i < w.length) : (invL w).getD i 0 = -(w.getD (w.length - 1 - i) 0) := by
  rw [getD_lt 0 (by simp [invL]; exact h), getD_lt 0 (by omega)]
  simp [invL]
theorem take_get {w : List Int} {n i : Nat} (h : i < n) : (w.take n).getD i 0 = w.getD i 0 := by
  simp [List.getD, h]
theorem app_l {a b : List Int} {i : Nat} (h : i < a.length) : (a ++ b).getD i 0 = a.getD i 0 := by
  simp [List.getD, List.getElem?_append_left h]
theorem app_r {a b : List Int} {i : Nat} (h : a.length ≤ i) : (a ++ b).getD i 0 = b.getD (i - a.length) 0 := by
  simp [List.getD, List.getElem?_append_right h]
/-- the heart of a word that does not vanish is not empty -/
theorem core_pos {w : List Int} (h : red w ≠ []) : 0 < (coreL w).length := by
  apply Classical.byContradiction; intro hc
  have h1 := mid_len (red w) (peel (red w))
  have h2 := peel_le (red w)
  have h3 : (coreL w).length = 0 := by omega
  unfold coreL at h3
  have h4 : 0 < (red w).length := List.length_pos_iff.2 h
  have h5 := peel_get _ (red w) (Nat.le_refl _) (peel (red w) - 1) (by omega)
  have h6 := rd_get (rd_red w) (peel (red w) - 1) (by omega)
  rw [show peel (red w) - 1 + 1 = (red w).length - 1 - (peel (red w) - 1) by omega] at h6
  omega
/-- turning by k leaves c as it is: c is its first k letters, over and over -/
theorem rootP_rep {c : List Int} {k : Nat} (h0 : 0 < k) (hk : k ≤ c.length) : rootP c k ↔ c.length % k = 0 ∧ repT (c.take k) c.length = c := by
  have hl : (c.take k).length = k := by simp; omega
  have hm : ∀ i, i % k < k := fun i => Nat.mod_lt _ h0
  constructor
  · rintro ⟨h1, h2⟩
    refine ⟨h1, (tbl_eq rfl (fun i hi => ?_)).symm⟩
    rw [hl, take_get (hm i)]
    by_cases e : k = c.length
    · rw [e, Nat.mod_eq_of_lt hi]
    · rw [Nat.mod_eq_of_lt (by omega : k < c.length)] at h2
      have step : ∀ j, j + k < c.length → c.getD (j + k) 0 = c.getD j 0 := fun j hj => by
        conv => rhs; rw [← h2]
        rw [app_l (by simp; omega)]
        simp only [List.getD, List.getElem?_drop, Nat.add_comm]
      have key : ∀ q r, r + q * k < c.length → c.getD (r + q * k) 0 = c.getD r 0 := by
        intro q
        induction q with
        | zero => intro r _; simp
        | succ q ih =>
          intro r hr
          rw [Nat.succ_mul] at hr ⊢
          rw [← Nat.add_assoc, step _ (by omega), ih r (by omega)]
      have := key (i / k) (i % k) (by rw [Nat.mul_comm, Nat.mod_add_div]; exact hi)
      rwa [Nat.mul_comm, Nat.mod_add_div] at this
  · rintro ⟨h1, h2⟩
    refine ⟨h1, ?_⟩
    by_cases e : k = c.length
    · rw [e, Nat.mod_self]; simp
    · rw [Nat.mod_eq_of_lt (by omega : k < c.length)]
      have hg : ∀ i, i < c.length → c.getD i 0 = c.getD (i % k) 0 := fun i hi => by
        conv => lhs; rw [← h2]
        unfold repT
        rw [tbl_get hi, hl, take_get (hm i)]
      apply List.ext_getElem (by simp; omega)
      intro i hi hi2
      rw [← getD_lt 0 hi, ← getD_lt 0 hi2]
      by_cases hlt : i < c.length - k
      · rw [app_l (by simp; omega)]
        have : (c.drop k).getD i 0 = c.getD (i + k) 0 := by simp only [List.getD, List.getElem?_drop, Nat.add_comm]
        rw [this, hg _ (by omega), hg i hi2, Nat.add_mod_right]
      · rw [app_r (by simp; omega), take_get (by simp; omega), hg _ (by simp; omega), hg i hi2]
        congr 1
        have : i = (i - (c.drop k).length) + (c.length - k) := by simp; omega
        conv => rhs; rw [this]
        have h3 : (c.length - k) % k = 0 := by
          have := Nat.sub_mod_eq_zero_of_mod_eq (m := c.length) (n := k) (k := k) (by rw [h1, Nat.mod_self])
          exact this
        rw [Nat.add_mod, h3, Nat.add_zero, Nat.mod_mod]
/-- the root's word is reduced already -/
theorem rootL_eq {w : List Int} {k : Nat} (h0 : 0 < k) (hk : k ≤ (coreL w).length) (hp : rootP (coreL w) k) : rootL w k = wrapL w ++ (coreL w).take k ++ invL (wrapL w) := by
  unfold rootL
  apply red_rd
  obtain ⟨hp1, hp2⟩ := (rootP_rep h0 hk).1 hp
  have hlast : (repT ((coreL w).take k) (coreL w).length).getD ((coreL w).length - 1) 0 = (coreL w).getD (k - 1) 0 := by
    have hm := Nat.mod_lt ((coreL w).length - 1) h0
    unfold repT
    rw [tbl_get (by omega), List.length_take, Nat.min_eq_left hk, take_get hm]
    congr 1
    obtain ⟨q, hq⟩ : ∃ q, (coreL w).length = k * q := ⟨_, (Nat.mul_div_cancel' (Nat.dvd_of_mod_eq_zero hp1)).symm⟩
    cases q with
    | zero => rw [Nat.mul_zero] at hq; omega
    | succ q => rw [hq, Nat.mul_succ, show k * q + k - 1 = (k - 1) + k * q by omega, Nat.add_mul_mod_self_left, Nat.mod_eq_of_lt (by omega)]
  rw [hp2] at hlast
  have h1 := mid_len (red w) (peel (red w))
  have h2 := peel_le (red w)
  have hr := rd_get (rd_red w)
  have hpl := peel_get _ (red w) (Nat.le_refl _)
  unfold coreL at hlast hk ⊢
  unfold wrapL
  generalize red w = v at *
  generalize peel v = p at *
  have hu : (v.take p).length = p := by simp; omega
  have hd : ((mid v p).take k).length = k := by rw [List.length_take]; omega
  have hi : (invL (v.take p)).length = p := by simp [invL]; omega
  -- the letters
  have gu : ∀ i, i < p → (v.take p ++ (mid v p).take k ++ invL (v.take p)).getD i 0 = v.getD i 0 := fun i h => by
    rw [app_l (by simp; omega), app_l (by omega), take_get h]
  have gd : ∀ i, p ≤ i → i < p + k → (v.take p ++ (mid v p).take k ++ invL (v.take p)).getD i 0 = v.getD i 0 := fun i h h' => by
    rw [app_l (by rw [List.length_append]; omega), app_r (by omega), hu, take_get (by omega), mid_get (by omega), show p + (i - p) = i by omega]
  have gi : ∀ i, p + k ≤ i → i < p + k + p → (v.take p ++ (mid v p).take k ++ invL (v.take p)).getD i 0 = -(v.getD (p + k + p - 1 - i) 0) := fun i h h' => by
    rw [app_r (by rw [List.length_append]; omega), List.length_append, hu, hd, invL_get (by omega), hu, take_get (by omega)]
    congr 2; omega
  apply get_rd
  intro i hil
  rw [List.length_append, List.length_append, hu, hd, hi] at hil
  by_cases c1 : i + 1 < p + k
  · have e1 : (v.take p ++ (mid v p).take k ++ invL (v.take p)).getD i 0 = v.getD i 0 := by
      by_cases c : i < p
      · exact gu i c
      · exact gd i (by omega) (by omega)
    have e2 : (v.take p ++ (mid v p).take k ++ invL (v.take p)).getD (i + 1) 0 = v.getD (i + 1) 0 := by
      by_cases c : i + 1 < p
      · exact gu _ c
      · exact gd _ (by omega) (by omega)
    rw [e1, e2]
    exact hr i (by omega)
  · by_cases c2 : i + 1 = p + k
    · rw [gd i (by omega) (by omega), gi (i + 1) (by omega) (by omega)]
      -- the last letter of the heart, and the one behind it
      have h5 := hr (v.length - p - 1) (by omega)
      rw [mid_get (by omega), mid_get (by omega), h1] at hlast
      rw [show p + (v.length - p - p - 1) = v.length - p - 1 by omega, show p + (k - 1) = i by omega] at hlast
      rw [hlast] at h5
      have h6 := hpl (p - 1) (by omega)
      rw [show v.length - 1 - (p - 1) = v.length - p - 1 + 1 by omega] at h6
      rw [show p + k + p - 1 - (i + 1) = p - 1 by omega]
      omega
    · rw [gi i (by omega) (by omega), gi (i + 1) (by omega) (by omega)]
      have h5 := hr (p + k + p - 1 - (i + 1)) (by omega)
      rw [show p + k + p - 1 - (i + 1) + 1 = p + k + p - 1 - i by omega] at h5
      omega
end Go.Proofs.Ytpnamejmkfpeoaa
