/- Diagonal matrices: solutions and minors. Plain facts: nothing of the program is here. -/
import Derived.Test.YtgjfpmjllpgadaaGColorCountsAJ
set_option linter.unusedVariables false
set_option linter.unusedSimpArgs false
namespace Go.Proofs.Ytgjfpmjllpgadaa

theorem dot_diag {N : Nat → Nat → Int} {n k r : Nat} (hr : r < n) (hd : ∀ r c, r < n → c < k → r ≠ c → N r c = 0) (v : List Nat) : dotV (N r) v k = if r < k then N r r * ((v.getD r 0 : Nat) : Int) else 0 := by
  unfold dotV
  by_cases h : r < k
  · rw [if_pos h, ← sm_single h (N r r * ((v.getD r 0 : Nat) : Int))]
    refine sm_congr (fun j hj => ?_)
    by_cases e : j = r
    · rw [if_pos e, e]
    · rw [if_neg e, hd r j hr (List.mem_range.1 hj) (fun h => e h.symm), Int.zero_mul]
  · rw [if_neg h]
    have : sm (List.range k) (fun j => N r j * ((v.getD j 0 : Nat) : Int)) = sm (List.range k) (fun _ => 0 * 0) := sm_congr (fun j hj => by
      have := List.mem_range.1 hj
      rw [hd r j hr this (by omega), Int.zero_mul]; rfl)
    rw [this, sm_mul, Int.zero_mul]
theorem prdN_congr {f g : Nat → Nat} : ∀ (k i : Nat), (∀ j, i ≤ j → j < i + k → f j = g j) → prdN f i k = prdN g i k
  | 0, _, _ => rfl
  | k + 1, i, h => by
    show f i * prdN f (i + 1) k = g i * prdN g (i + 1) k
    rw [h i (Nat.le_refl _) (by omega), prdN_congr k (i + 1) (fun j h1 h2 => h j (by omega) (by omega))]
theorem cnt_diag {N : Nat → Nat → Int} {n k m : Nat} (hm : 1 ≤ m) (hd : ∀ r c, r < n → c < k → r ≠ c → N r c = 0) : cntS N n k m = prdN (fun i => if i < n then Int.gcd (N i i) m else m) 0 k := by
  have h1 : cntS N n k m = ((vecs m k).filter (allV (fun i x => if i < n then decide ((m : Int) ∣ N i i * (x : Int)) else true) 0)).length := by
    unfold cntS
    congr 1
    refine List.filter_congr (fun v hv => ?_)
    obtain ⟨g1, _⟩ := mem_vecs.1 hv
    rw [Bool.eq_iff_iff, allV_iff]
    unfold solB
    simp only [List.all_eq_true, List.mem_range, decide_eq_true_eq, Nat.zero_add]
    constructor
    · intro h j hj
      by_cases hjn : j < n
      · rw [if_pos hjn, decide_eq_true_eq]
        have := h j hjn
        rwa [dot_diag hjn hd v, if_pos (by omega)] at this
      · rw [if_neg hjn]
    · intro h r hr
      rw [dot_diag hr hd v]
      by_cases hk : r < k
      · have := h r (by omega)
        rw [if_pos hr, decide_eq_true_eq] at this
        rw [if_pos hk]; exact this
      · rw [if_neg hk]; exact Int.dvd_zero _
  rw [h1, cnt_all]
  refine prdN_congr k 0 (fun j _ _ => ?_)
  by_cases hj : j < n
  · simp only [if_pos hj]; exact cnt_gcd hm (N j j)
  · simp only [if_neg hj]
    unfold cntN
    rw [List.filter_eq_self.2 (fun _ _ => rfl), List.length_range]
/-- the product of the diagonal over a list -/
def dprd (N : Nat → Nat → Int) : List Nat → Int
  | [] => 1
  | r :: rs => N r r * dprd N rs
theorem iot_zero (u : Nat → Int) : ∀ (l : List Nat) (L : List Nat → Int), (∀ x ∈ l, u x = 0) → iot u L l = 0
  | [], _, _ => rfl
  | x :: b, L, h => by
    show u x * L b - iot u _ b = 0
    rw [h x (by simp), iot_zero u b _ (fun y hy => h y (by simp [hy]))]; simp
theorem lap_col0 {N : Nat → Nat → Int} {c : Nat} : ∀ (rs l : List Nat), rs.length = l.length + 1 → (∀ r ∈ rs, N r c = 0) → lap N rs (c :: l) = 0
  | [], l, h, _ => by simp at h
  | r :: rs, l, h, hz => by
    rw [lap_iot]
    show N r c * lap N rs l - iot (N r) (fun l => lap N rs (c :: l)) l = 0
    have : iot (N r) (fun l => lap N rs (c :: l)) l = 0 * iot (N r) (fun _ => 0) l := iot_congr l _ _ (fun q hq => by
      rw [lap_col0 rs q (by simp at h; omega) (fun r' hr => hz r' (by simp [hr]))]; simp)
    rw [this, hz r (by simp)]; simp
/-- a minor of a diagonal matrix is 0 or a product -/
theorem lap_diag {N : Nat → Nat → Int} {n k : Nat} (hd : ∀ r c, r < n → c < k → r ≠ c → N r c = 0) : ∀ (rs cs : List Nat), Asc rs → Asc cs → (∀ x ∈ rs, x < n) → (∀ x ∈ cs, x < k) → rs.length = cs.length → lap N rs cs = 0 ∨ (rs = cs ∧ lap N rs cs = dprd N rs)
  | [], [], _, _, _, _, _ => .inr ⟨rfl, rfl⟩
  | [], _ :: _, _, _, _, _, h => by simp at h
  | _ :: _, [], _, _, _, _, h => by simp at h
  | r :: rs, c :: cs, h1, h2, h3, h4, h5 => by
    obtain ⟨a1, a2⟩ := List.pairwise_cons.1 h1
    obtain ⟨b1, b2⟩ := List.pairwise_cons.1 h2
    have hr := h3 r (by simp)
    rw [lap_iot]
    show N r c * lap N rs cs - iot (N r) (fun l => lap N rs (c :: l)) cs = 0 ∨ _
    by_cases e : r = c
    · have hz : iot (N r) (fun l => lap N rs (c :: l)) cs = 0 := iot_zero _ _ _ (fun x hx => hd r x hr (h4 x (by simp [hx])) (by have := b1 x hx; omega))
      rw [hz]
      rcases lap_diag hd rs cs a2 b2 (fun x hx => h3 x (by simp [hx])) (fun x hx => h4 x (by simp [hx])) (by simpa using h5) with h | ⟨h, h'⟩
      · left; rw [h]; simp
      · right
        refine ⟨by rw [e, h], ?_⟩
        show N r c * lap N rs cs - iot (N r) (fun l => lap N rs (c :: l)) cs = dprd N (r :: rs)
        rw [hz, h', ← e]
        show N r r * dprd N rs - 0 = N r r * dprd N rs
        omega
    · rw [hd r c hr (h4 c (by simp)) e, Int.zero_mul]
      left
      -- the row's one entry stands further back, or nowhere: c is then in no row
      have hz : iot (N r) (fun l => lap N rs (c :: l)) cs = 0 := by
        by_cases hlt : r < c
        · exact iot_zero _ _ _ (fun x hx => hd r x hr (h4 x (by simp [hx])) (by have := b1 x hx; omega))
        · have : iot (N r) (fun l => lap N rs (c :: l)) cs = 0 * iot (N r) (fun _ => 0) cs := iot_congr cs _ _ (fun q hq => by
            rw [lap_col0 rs q (by simp at h5; omega) (fun r' hr' => hd r' c (h3 r' (by simp [hr'])) (h4 c (by simp)) (by have := a1 r' hr'; omega))]; simp)
          rw [this, Int.zero_mul]
      rw [hz]; rfl
/-- the first numbers divide the most -/
theorem dprd_range {N : Nat → Nat → Int} {t : Nat} (hch : ∀ i, i + 1 < t → N i i ∣ N (i + 1) (i + 1)) : ∀ (rs : List Nat) (s : Nat), Asc rs → (∀ x ∈ rs, s ≤ x ∧ x < t) → dprd N (List.range' s rs.length) ∣ dprd N rs
  | [], s, _, _ => Int.dvd_refl _
  | r :: rs, s, h1, h2 => by
    obtain ⟨a1, a2⟩ := List.pairwise_cons.1 h1
    have hr := h2 r (by simp)
    have up : ∀ d, s + d < t → N s s ∣ N (s + d) (s + d) := by
      intro d
      induction d with
      | zero => intro _; exact Int.dvd_refl _
      | succ d ih => intro h; exact Int.dvd_trans (ih (by omega)) (hch (s + d) h)
    have h3 := up (r - s) (by omega)
    rw [show s + (r - s) = r by omega] at h3
    show N s s * dprd N (List.range' (s + 1) rs.length) ∣ N r r * dprd N rs
    exact Int.mul_dvd_mul h3 (dprd_range hch rs (s + 1) a2 (fun x hx => ⟨by have := a1 x hx; omega, (h2 x (by simp [hx])).2⟩))
/-- what divides all minors of size q divides the product of the first q -/
theorem dv_diag {N : Nat → Nat → Int} {n k : Nat} (hd : ∀ r c, r < n → c < k → r ≠ c → N r c = 0) (hch : ∀ i, i + 1 < min n k → N i i ∣ N (i + 1) (i + 1)) {q : Nat} (hq : q ≤ min n k) (g : Nat) : DvM N n k q g ↔ (g : Int) ∣ dprd N (List.range q) := by
  have hA : Asc (List.range q) := asc_range q
  constructor
  · intro h
    have := h (List.range q) (List.range q) hA (fun x hx => by have := List.mem_range.1 hx; omega) (by simp) hA (fun x hx => by have := List.mem_range.1 hx; omega) (by simp)
    rcases lap_diag hd (List.range q) (List.range q) hA hA (fun x hx => by have := List.mem_range.1 hx; omega) (fun x hx => by have := List.mem_range.1 hx; omega) rfl with h1 | ⟨_, h1⟩
    · -- the minor of the first q is the product, whatever it is
      have key : ∀ (l : List Nat), Asc l → (∀ x ∈ l, x < n ∧ x < k) → lap N l l = dprd N l := by
        intro l
        induction l with
        | nil => intro _ _; rfl
        | cons r l ih =>
          intro g1 g2
          obtain ⟨b1, b2⟩ := List.pairwise_cons.1 g1
          rw [lap_iot]
          show N r r * lap N l l - iot (N r) (fun w => lap N l (r :: w)) l = N r r * dprd N l
          rw [iot_zero (N r) l _ (fun x hx => hd r x (g2 r (by simp)).1 (g2 x (by simp [hx])).2 (by have := b1 x hx; omega)), ih b2 (fun x hx => g2 x (by simp [hx]))]
          omega
      rw [key (List.range q) hA (fun x hx => by have := List.mem_range.1 hx; omega)] at this
      exact this
    · rw [h1] at this; exact this
  · intro h rs cs h1 h2 h3 h4 h5 h6
    rcases lap_diag hd rs cs h1 h4 h2 h5 (by omega) with e | ⟨e1, e⟩
    · rw [e]; exact Int.dvd_zero _
    · rw [e]
      have := dprd_range hch rs 0 h1 (fun x hx => ⟨Nat.zero_le _, by have := h2 x hx; have := h5 x (e1 ▸ hx); omega⟩)
      rw [h3, ← List.range_eq_range'] at this
      exact Int.dvd_trans h this
end Go.Proofs.Ytgjfpmjllpgadaa
