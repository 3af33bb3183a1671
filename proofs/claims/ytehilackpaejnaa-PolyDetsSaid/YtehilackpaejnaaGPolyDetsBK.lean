/-
  The sign of a permutation: inversions and cycles. Plain facts: nothing of the program is here.
-/
import Derived.Test.YtehilackpaejnaaGPolyDetsAD
set_option linter.unusedVariables false
set_option linter.unusedSimpArgs false
namespace Go.Proofs.Ytehilackpaejnaa

/-- how many k below m -/
def cnt (p : Nat → Bool) : Nat → Nat
  | 0 => 0
  | m + 1 => cnt p m + if p m then 1 else 0
theorem cnt_congr {p q : Nat → Bool} : ∀ {m : Nat}, (∀ k, k < m → p k = q k) → cnt p m = cnt q m
  | 0, _ => rfl
  | m + 1, h => by simp only [cnt]; rw [cnt_congr (fun k hk => h k (by omega)), h m (by omega)]
theorem cnt_zero {p : Nat → Bool} {m : Nat} (h : ∀ k, k < m → p k = false) : cnt p m = 0 := by
  induction m with
  | zero => rfl
  | succ m ih => simp only [cnt]; rw [ih (fun k hk => h k (by omega)), h m (by omega)]; rfl
theorem cnt_le (p : Nat → Bool) : ∀ m, cnt p m ≤ m
  | 0 => Nat.le_refl _
  | m + 1 => by have := cnt_le p m; simp only [cnt]; split <;> omega
/-- one place differs -/
theorem cnt_diff {p q : Nat → Bool} {u : Nat} : ∀ {m : Nat}, u < m → (∀ k, k < m → k ≠ u → p k = q k) → cnt p m + (if q u then 1 else 0) = cnt q m + (if p u then 1 else 0)
  | m + 1, hu, h => by
    simp only [cnt]
    by_cases e : u = m
    · subst e
      rw [cnt_congr (fun k hk => h k (by omega) (by omega))]
      omega
    · have := cnt_diff (p := p) (q := q) (u := u) (m := m) (by omega) (fun k hk hn => h k (by omega) hn)
      rw [h m (by omega) (fun e2 => e e2.symm)]
      omega
/-- inversions -/
def ivc (f : Nat → Nat) : Nat → Nat
  | 0 => 0
  | i + 1 => ivc f i + cnt (fun k => decide (f i < f k)) i
theorem ivc_congr {f g : Nat → Nat} : ∀ {m : Nat}, (∀ k, k < m → f k = g k) → ivc f m = ivc g m
  | 0, _ => rfl
  | m + 1, h => by
    simp only [ivc]
    rw [ivc_congr (fun k hk => h k (by omega)), h m (by omega), cnt_congr (fun k hk => by rw [h k (by omega)])]
structure IsP (f : Nat → Nat) (n : Nat) : Prop where
  lt : ∀ i, i < n → f i < n
  inj : ∀ i j, i < n → j < n → f i = f j → i = j
theorem itr_congr {f g : Nat → Nat} {n : Nat} (hf : ∀ i, i < n → f i < n) (h : ∀ i, i < n → f i = g i) : ∀ (j i : Nat), i < n → itr f j i = itr g j i
  | 0, _, _ => rfl
  | j + 1, i, hi => by
    simp only [itr]
    rw [← itr_congr hf h j i hi, h _ (itr_lt hf j i hi)]
theorem IsP.pm {f : Nat → Nat} {n : Nat} (h : IsP f n) : Pm (tabN n f) := by
  refine ⟨fun i hi => ?_, ?_⟩
  · have hl : (tabN n f).length = n := tab_len n f
    rw [hl] at hi ⊢
    rw [tabN_get hi]
    have := h.lt i hi
    omega
  · unfold tabN
    rw [List.Nodup, List.pairwise_map]
    refine List.Pairwise.imp_of_mem ?_ (List.nodup_range (n := n))
    intro a b ha hb hne he
    exact hne (h.inj a b (by simpa using ha) (by simpa using hb) (by exact_mod_cast he))
theorem Pm.isP {xs : List Int} (h : Pm xs) : IsP (fn xs) xs.length := ⟨h.lt, h.inj⟩
theorem fn_tab {n : Nat} {f : Nat → Nat} {i : Nat} (hi : i < n) : fn (tabN n f) i = f i := by
  unfold fn; rw [tabN_get hi]; simp
theorem Pm.per {xs : List Int} (hp : Pm xs) {i : Nat} (hi : i < xs.length) : ∃ L, 1 ≤ L ∧ L ≤ xs.length ∧ itr (fn xs) L i = i := by
  obtain ⟨hm, hd⟩ := cyc_mk hp xs.length (Nat.le_refl _)
  obtain ⟨c, h1, h2⟩ := hm.on i hi (hd i hi)
  have := cyclesOf_lens hp.rng c h1
  exact ⟨c.length, this.1, this.2, h2⟩
theorem IsP.per {f : Nat → Nat} {n : Nat} (h : IsP f n) {i : Nat} (hi : i < n) : ∃ L, 1 ≤ L ∧ L ≤ n ∧ itr f L i = i := by
  have hl : (tabN n f).length = n := tab_len n f
  obtain ⟨L, h1, h2, h3⟩ := h.pm.per (i := i) (by rw [hl]; exact hi)
  rw [hl] at h2
  refine ⟨L, h1, h2, ?_⟩
  rwa [← itr_congr h.lt (fun i hi => (fn_tab hi).symm) L i hi] at h3
theorem IsP.pre {f : Nat → Nat} {n : Nat} (h : IsP f n) {y : Nat} (hy : y < n) : ∃ u, u < n ∧ f u = y := by
  obtain ⟨L, h1, h2, h3⟩ := h.per hy
  obtain ⟨m, rfl⟩ : ∃ m, L = m + 1 := ⟨L - 1, by omega⟩
  exact ⟨itr f m y, itr_lt h.lt m y hy, h3⟩
/-- from a point of an orbit the way leads back -/
theorem IsP.back {f : Nat → Nat} {n : Nat} (h : IsP f n) {i j k : Nat} (hi : i < n) (e : itr f j i = k) : ∃ m, itr f m k = i := by
  obtain ⟨L, h1, h2, h3⟩ := h.per hi
  have hle : j ≤ L * (j + 1) := Nat.le_trans (Nat.le_succ j) (Nat.le_mul_of_pos_left _ h1)
  refine ⟨L * (j + 1) - j, ?_⟩
  rw [← e, ← itr_add, Nat.add_sub_cancel' hle]
  exact itr_mul h3 _

/-- the least point of its orbit -/
def mn (f : Nat → Nat) (k : Nat) : Prop := ∀ j, k ≤ itr f j k
noncomputable instance (f : Nat → Nat) (k : Nat) : Decidable (mn f k) := Classical.propDecidable _
noncomputable def mnc (f : Nat → Nat) : Nat → Nat
  | 0 => 0
  | k + 1 => mnc f k + if mn f k then 1 else 0
theorem mnc_congr {f g : Nat → Nat} : ∀ {m : Nat}, (∀ k, k < m → (mn f k ↔ mn g k)) → mnc f m = mnc g m
  | 0, _ => rfl
  | m + 1, h => by
    simp only [mnc]
    rw [mnc_congr (fun k hk => h k (by omega))]
    by_cases c : mn f m
    · rw [if_pos c, if_pos ((h m (by omega)).1 c)]
    · rw [if_neg c, if_neg (fun hh => c ((h m (by omega)).2 hh))]
/-- the last point is passed by -/
def byp (f : Nat → Nat) (N : Nat) (x : Nat) : Nat := if f x = N then f N else f x
section
variable {f : Nat → Nat} {N : Nat} (h : IsP f (N + 1)) (hv : f N ≠ N)
include h hv
set_option linter.unusedSectionVars false
theorem byp_isP : IsP (byp f N) N := by
  have hvl := h.lt N (by omega)
  refine ⟨fun i hi => ?_, fun i j hi hj e => ?_⟩
  · unfold byp
    have := h.lt i (by omega)
    split <;> omega
  · unfold byp at e
    split at e
    · rename_i h1
      split at e
      · rename_i h2; exact h.inj i j (by omega) (by omega) (h1.trans h2.symm)
      · have := h.inj N j (by omega) (by omega) e; omega
    · split at e
      · have := h.inj i N (by omega) (by omega) e; omega
      · exact h.inj i j (by omega) (by omega) e
theorem byp_a {k : Nat} : ∀ j, ∃ j', itr (byp f N) j k = itr f j' k
  | 0 => ⟨0, rfl⟩
  | j + 1 => by
    obtain ⟨j', e⟩ := byp_a (k := k) j
    simp only [itr]
    rw [e]
    unfold byp
    split
    · rename_i h1
      exact ⟨j' + 2, by simp only [itr]; rw [h1]⟩
    · exact ⟨j' + 1, rfl⟩
theorem byp_b {k : Nat} (hk : k < N) : ∀ j, (itr f j k = N ∧ ∃ j', f (itr (byp f N) j' k) = N) ∨ ∃ j', itr f j k = itr (byp f N) j' k
  | 0 => .inr ⟨0, rfl⟩
  | j + 1 => by
    rcases byp_b hk j with ⟨e, j', e2⟩ | ⟨j', e⟩
    · refine .inr ⟨j' + 1, ?_⟩
      simp only [itr]
      rw [e, byp, if_pos e2]
    · by_cases c : f (itr (byp f N) j' k) = N
      · exact .inl ⟨by simp only [itr]; rw [e, c], j', c⟩
      · exact .inr ⟨j' + 1, by simp only [itr]; rw [e, byp, if_neg c]⟩
theorem byp_mn {k : Nat} (hk : k < N) : mn f k ↔ mn (byp f N) k := by
  constructor
  · intro hm j
    obtain ⟨j', e⟩ := byp_a h hv (k := k) j
    rw [e]; exact hm j'
  · intro hm j
    rcases byp_b h hv hk j with ⟨e, _⟩ | ⟨j', e⟩
    · omega
    · rw [e]; exact hm j'
theorem byp_ivc : ∃ c, ivc f (N + 1) = ivc (byp f N) N + 1 + 2 * c := by
  have hvl : f N < N := by have := h.lt N (by omega); omega
  obtain ⟨u, hu, eu⟩ := h.pre (y := N) (by omega)
  have huN : u < N := by
    apply Classical.byContradiction; intro hc
    obtain rfl : u = N := by omega
    exact hv eu
  have hfl : ∀ k, k < N → k ≠ u → f k < N := fun k hk hn => by
    have := h.lt k (by omega)
    have hne : f k ≠ N := fun e => hn (h.inj k u (by omega) hu (e.trans eu.symm))
    omega
  have hg : ∀ k, k < N → k ≠ u → byp f N k = f k := fun k hk hn => by
    have := hfl k hk hn
    unfold byp; rw [if_neg (by omega)]
  have hgu : byp f N u = f N := by unfold byp; rw [if_pos eu]
  have key : ∀ d, u + 1 + d ≤ N → ivc f (u + 1 + d) + cnt (fun k => decide (f N < f k)) u + cnt (fun j => decide (u < j) && decide (f j < f N)) (u + 1 + d) = ivc (byp f N) (u + 1 + d) + d := by
    intro d
    induction d with
    | zero =>
      intro hd
      rw [Nat.add_zero]
      simp only [ivc]
      rw [hgu, ivc_congr (g := byp f N) (fun k hk => (hg k (by omega) (by omega)).symm), cnt_zero (p := fun k => decide (f u < f k)) (fun k hk => by have := hfl k (by omega) (by omega); simp; omega)]
      rw [cnt_congr (p := fun k => decide (f N < byp f N k)) (q := fun k => decide (f N < f k)) (fun k hk => by rw [hg k (by omega) (by omega)])]
      rw [cnt_zero (p := fun j => decide (u < j) && decide (f j < f N)) (fun k hk => by simp; omega)]
      omega
    | succ d ih =>
      intro hd
      have ih := ih (by omega)
      rw [← Nat.add_assoc]
      have hm := hg (u + 1 + d) (by omega) (by omega)
      have hmf := hfl (u + 1 + d) (by omega) (by omega)
      have hdf := cnt_diff (p := fun k => decide (f (u + 1 + d) < f k)) (q := fun k => decide (f (u + 1 + d) < byp f N k)) (u := u) (m := u + 1 + d) (by omega) (fun k hk hn => by
        rw [hg k (by omega) hn])
      rw [hgu, eu, decide_eq_true hmf] at hdf
      simp only [eq_self, ↓reduceIte] at hdf
      simp only [ivc, cnt, hm, show u < u + 1 + d by omega, decide_true, Bool.true_and]
      by_cases c : f (u + 1 + d) < f N
      · simp only [decide_eq_true c, eq_self, ↓reduceIte] at hdf ⊢; omega
      · simp only [decide_eq_false c] at hdf ⊢; simp at hdf ⊢; omega
  have k1 := key (N - (u + 1)) (by omega)
  rw [show u + 1 + (N - (u + 1)) = N by omega] at k1
  -- the last row
  have k2 : ∀ d, u + 1 + d ≤ N → cnt (fun k => decide (f N < f k)) (u + 1 + d) = cnt (fun k => decide (f N < f k)) u + 1 + cnt (fun j => decide (u < j) && decide (f N < f j)) (u + 1 + d) ∧
      cnt (fun j => decide (u < j) && decide (f j < f N)) (u + 1 + d) + cnt (fun j => decide (u < j) && decide (f N < f j)) (u + 1 + d) = d := by
    intro d
    induction d with
    | zero =>
      intro hd
      rw [Nat.add_zero]
      rw [cnt_zero (p := fun j => decide (u < j) && decide (f j < f N)) (fun k hk => by simp; omega), cnt_zero (p := fun j => decide (u < j) && decide (f N < f j)) (fun k hk => by simp; omega)]
      simp only [cnt, eu, decide_eq_true hvl, eq_self, ↓reduceIte]
      exact ⟨trivial, trivial⟩
    | succ d ih =>
      intro hd
      obtain ⟨i1, i2⟩ := ih (by omega)
      rw [← Nat.add_assoc]
      have hne : f (u + 1 + d) ≠ f N := fun e => by have := h.inj _ _ (by omega) (by omega) e; omega
      simp only [cnt, show u < u + 1 + d by omega, decide_true, Bool.true_and]
      by_cases c : f (u + 1 + d) < f N
      · simp only [decide_eq_true c, decide_eq_false (show ¬ f N < f (u + 1 + d) by omega)]; simp; omega
      · simp only [decide_eq_false c, decide_eq_true (show f N < f (u + 1 + d) by omega)]; simp; omega
  obtain ⟨k3, k4⟩ := k2 (N - (u + 1)) (by omega)
  rw [show u + 1 + (N - (u + 1)) = N by omega] at k3 k4
  refine ⟨cnt (fun j => decide (u < j) && decide (f N < f j)) N, ?_⟩
  simp only [ivc]
  omega
end
/-- INVERSIONS AND CYCLES: the sum is even as the degree is. -/
theorem ivc_mnc : ∀ (n : Nat) (f : Nat → Nat), IsP f n → (ivc f n + mnc f n) % 2 = n % 2
  | 0, _, _ => rfl
  | N + 1, f, h => by
    by_cases hv : f N = N
    · have hP : IsP f N := by
        refine ⟨fun i hi => ?_, fun i j hi hj e => h.inj i j (by omega) (by omega) e⟩
        have h1 := h.lt i (by omega)
        have h2 : f i ≠ N := fun e => by have := h.inj i N (by omega) (by omega) (e.trans hv.symm); omega
        omega
      have ih := ivc_mnc N f hP
      have hm : mn f N := fun j => by
        have : ∀ j, itr f j N = N := fun j => by
          induction j with
          | zero => rfl
          | succ j ih => simp only [itr]; rw [ih, hv]
        rw [this j]; exact Nat.le_refl _
      simp only [ivc, mnc, if_pos hm]
      rw [cnt_zero (fun k hk => by have := hP.lt k hk; simp; omega)]
      omega
    · have ih := ivc_mnc N (byp f N) (byp_isP h hv)
      obtain ⟨c, hc⟩ := byp_ivc h hv
      have hm : ¬ mn f N := fun hh => by
        have h1 := hh 1
        simp only [itr] at h1
        have := h.lt N (by omega)
        omega
      rw [hc]
      simp only [mnc, if_neg hm]
      rw [mnc_congr (fun k hk => byp_mn h hv hk)]
      omega
/-- the sign of a count -/
def sgn (m : Nat) : Int := if m % 2 = 0 then 1 else -1
theorem sgn_succ (m : Nat) : sgn (m + 1) = - sgn m := by
  unfold sgn
  by_cases h : m % 2 = 0
  · rw [if_pos h, if_neg (by omega)]
  · rw [if_neg h, if_pos (by omega)]; rfl
theorem sgn_bd (m : Nat) : -1 ≤ sgn m ∧ sgn m ≤ 1 := by unfold sgn; split <;> omega
end Go.Proofs.Ytehilackpaejnaa
