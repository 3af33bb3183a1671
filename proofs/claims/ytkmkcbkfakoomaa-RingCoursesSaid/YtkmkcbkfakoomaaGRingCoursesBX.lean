/- Facts and contracts that the claim uses. No condition of its own. -/
import Derived.Test.YtkmkcbkfakoomaaGRingCoursesAC
set_option linter.unusedVariables false
set_option linter.unusedSimpArgs false
namespace Go.Proofs.Ytkmkcbkfakoomaa
theorem least_of (p : Nat → Prop) (h : ∃ m, p m) : ∃ m, p m ∧ ∀ k, p k → m ≤ k := by
  obtain ⟨m, hm⟩ := h
  induction m using Nat.strongRecOn with
  | _ m ih =>
    by_cases c : ∃ k, k < m ∧ p k
    · obtain ⟨k, h1, h2⟩ := c; exact ih k h1 h2
    · refine ⟨m, hm, fun k hk => ?_⟩
      apply Classical.byContradiction; intro hc
      exact c ⟨k, by omega, hk⟩
theorem per_least {f : Nat → Nat} {n i : Nat} (h : IsP f n) (hi : i < n) : ∃ L, (1 ≤ L ∧ itr f L i = i) ∧ ∀ k, (1 ≤ k ∧ itr f k i = i) → L ≤ k := by
  obtain ⟨L, h1, _, h3⟩ := h.per hi
  exact least_of (fun L => 1 ≤ L ∧ itr f L i = i) ⟨L, h1, h3⟩
noncomputable def per (f : Nat → Nat) (i : Nat) : Nat := @dite _ (∃ L, (1 ≤ L ∧ itr f L i = i) ∧ ∀ k, (1 ≤ k ∧ itr f k i = i) → L ≤ k) (Classical.propDecidable _) (fun h => Classical.choose h) (fun _ => 0)
theorem per_eq {f : Nat → Nat} {i L : Nat} (h1 : 1 ≤ L) (h2 : itr f L i = i) (h3 : ∀ k, 1 ≤ k → k < L → itr f k i ≠ i) : per f i = L := by
  have hex : ∃ L, (1 ≤ L ∧ itr f L i = i) ∧ ∀ k, (1 ≤ k ∧ itr f k i = i) → L ≤ k := ⟨L, ⟨h1, h2⟩, fun k hk => by
    apply Classical.byContradiction; intro hc
    exact h3 k hk.1 (by omega) hk.2⟩
  unfold per
  rw [dif_pos hex]
  obtain ⟨⟨q1, q2⟩, q3⟩ := Classical.choose_spec hex
  have a1 := q3 L ⟨h1, h2⟩
  apply Classical.byContradiction; intro hc
  exact h3 _ q1 (by omega) q2
theorem per_spec {f : Nat → Nat} {n i : Nat} (h : IsP f n) (hi : i < n) : 1 ≤ per f i ∧ itr f (per f i) i = i ∧ (∀ k, 1 ≤ k → k < per f i → itr f k i ≠ i) ∧ per f i ≤ n := by
  obtain ⟨L, ⟨h1, h2⟩, h3⟩ := per_least h hi
  have h4 : ∀ k, 1 ≤ k → k < L → itr f k i ≠ i := fun k hk hl e => by have := h3 k ⟨hk, e⟩; omega
  rw [per_eq h1 h2 h4]
  obtain ⟨L', q1, q2, q3⟩ := h.per hi
  have := h3 L' ⟨q1, q3⟩
  exact ⟨h1, h2, h4, by omega⟩
theorem itr_mod {f : Nat → Nat} {i L : Nat} (h : itr f L i = i) (j : Nat) : itr f j i = itr f (j % L) i := by
  have e := Nat.div_add_mod j L
  calc itr f j i = itr f (L * (j / L) + j % L) i := by rw [e]
    _ = itr f (j % L) i := by rw [itr_add, itr_mul h]
theorem per_dvd {f : Nat → Nat} {n i m : Nat} (h : IsP f n) (hi : i < n) (hm : itr f m i = i) : per f i ∣ m := by
  obtain ⟨h1, h2, h3, _⟩ := per_spec h hi
  rw [itr_mod h2] at hm
  apply Nat.dvd_of_mod_eq_zero
  apply Classical.byContradiction; intro hc
  exact h3 (m % per f i) (by omega) (Nat.mod_lt _ h1) hm
def orbL (f : Nat → Nat) (i L : Nat) : List Int := (List.range L).map fun j => (itr f j i : Int)
@[simp] theorem orbL_len (f : Nat → Nat) (i L : Nat) : (orbL f i L).length = L := by simp [orbL]
theorem orbL_get {f : Nat → Nat} {i L j : Nat} (h : j < L) : (orbL f i L).getD j 0 = (itr f j i : Int) := by simp [orbL, List.getD, h]
noncomputable def rnd (f : Nat → Nat) : Nat → List (List Int)
  | 0 => []
  | k + 1 => rnd f k ++ (if mn f k then [orbL f k (per f k)] else [])
theorem rnd_mem {f : Nat → Nat} {c : List Int} : ∀ {n : Nat}, c ∈ rnd f n → ∃ k, k < n ∧ mn f k ∧ c = orbL f k (per f k)
  | n + 1, h => by
    simp only [rnd] at h
    rcases List.mem_append.1 h with h | h
    · obtain ⟨k, h1, h2⟩ := rnd_mem h
      exact ⟨k, by omega, h2⟩
    · split at h
      · rename_i hm
        rw [List.mem_singleton] at h
        exact ⟨n, by omega, hm, h⟩
      · cases h
theorem list_eq_getD {a b : List Int} (hl : a.length = b.length) (h : ∀ j, j < a.length → a.getD j 0 = b.getD j 0) : a = b := by
  apply List.ext_getElem hl
  intro j h1 h2
  have := h j h1
  rwa [getD_lt 0 h1, getD_lt 0 h2] at this
theorem cycAt_rnd {xs : List Int} (hp : Pm xs) : ∀ k, k ≤ xs.length → (cycAt xs k).1 = rnd (fn xs) k ∧ ∀ y, (cycAt xs k).2 y = true ↔ ∃ i j, i < k ∧ itr (fn xs) j i = y
  | 0, _ => ⟨rfl, fun y => ⟨fun h => by simp [cycAt] at h, fun ⟨i, j, h, _⟩ => by omega⟩⟩
  | k + 1, hk => by
    obtain ⟨ih, ihd⟩ := cycAt_rnd hp k (by omega)
    obtain ⟨hMk, _⟩ := cyc_mk hp k (by omega)
    have hP := hp.isP
    obtain ⟨x, D, c, hw, H, hD⟩ := wk_ob hp (k := k) (D0 := (cycAt xs k).2) xs.length k (cycAt xs k).2 [] (by omega) (freeN_le _ _) ⟨rfl, fun j hj => by simp at hj, fun i j _ hj => by simp at hj, fun y => by simp⟩
    by_cases h0 : (cycAt xs k).2 k = true
    · have hc : c = [] := by
        have : wk xs xs.length k (cycAt xs k).2 [] = ([], (cycAt xs k).2) := by
          cases hl : xs.length <;> simp [wk, h0]
        rw [this] at hw; cases hw; rfl
      have hcy := cycAt_succ_none hw hc
      obtain ⟨i, j, h1, h2⟩ := (ihd k).1 h0
      have hnm : ¬ mn (fn xs) k := fun hm => by
        obtain ⟨m, hm2⟩ := hP.back (by omega) h2
        have := hm m
        omega
      rw [hcy]
      refine ⟨by simp only [rnd, if_neg hnm, List.append_nil]; exact ih, fun y => ?_⟩
      rw [H.mkd y]
      constructor
      · rintro (h | ⟨j, hj, _⟩)
        · obtain ⟨i, j, h3, h4⟩ := (ihd y).1 h
          exact ⟨i, j, by omega, h4⟩
        · rw [hc] at hj; simp at hj
      · rintro ⟨i', j', h3, h4⟩
        refine .inl ((ihd y).2 ?_)
        by_cases e : i' = k
        · subst e
          exact ⟨i, j + j', h1, by rw [itr_add, h2]; exact h4⟩
        · exact ⟨i', j', by omega, h4⟩
    · have h0 : (cycAt xs k).2 k = false := by cases h : (cycAt xs k).2 k <;> simp_all
      obtain ⟨hpos, hcl⟩ := cyc_closed hp (by omega) H hD h0 hMk.pre
      have hcy := cycAt_succ_some hw (by intro e; rw [e] at hpos; simp at hpos)
      have hper : per (fn xs) k = c.length := per_eq hpos hcl (fun j h1 h2 e => H.dis 0 j (by omega) h2 e.symm)
      have hmn : mn (fn xs) k := fun j => by
        apply Classical.byContradiction; intro hc
        obtain ⟨m, hm⟩ := hP.back (i := k) (j := j) (by omega) rfl
        have := (ihd k).2 ⟨itr (fn xs) j k, m, by omega, hm⟩
        rw [h0] at this; cases this
      have hc : c = orbL (fn xs) k (per (fn xs) k) := list_eq_getD (by rw [orbL_len, hper]) (fun j hj => by rw [H.c_eq j hj, orbL_get (by rw [hper]; exact hj)])
      rw [hcy]
      refine ⟨by simp only [rnd, if_pos hmn]; rw [ih, ← hc], fun y => ?_⟩
      rw [H.mkd y]
      constructor
      · rintro (h | ⟨j, hj, rfl⟩)
        · obtain ⟨i, j, h3, h4⟩ := (ihd y).1 h
          exact ⟨i, j, by omega, h4⟩
        · exact ⟨k, j, by omega, rfl⟩
      · rintro ⟨i', j', h3, h4⟩
        by_cases e : i' = k
        · subst e
          refine .inr ⟨j' % c.length, Nat.mod_lt _ hpos, ?_⟩
          rw [← h4]; exact itr_mod hcl j'
        · exact .inl ((ihd y).2 ⟨i', j', by omega, h4⟩)
theorem cyclesOf_rnd {xs : List Int} (hp : Pm xs) : cyclesOf xs = rnd (fn xs) xs.length := (cycAt_rnd hp _ (Nat.le_refl _)).1
theorem order_dvd {xs : List Int} (hp : Pm xs) {m : Nat} (hm : ∀ i, i < xs.length → itr (fn xs) m i = i) : orderOf xs ∣ m := by
  have key : ∀ k, k ≤ (cyclesOf xs).length → ordAt (cyclesOf xs) k ∣ m := by
    intro k
    induction k with
    | zero => intro _; exact Nat.one_dvd _
    | succ k ih =>
      intro hk
      simp only [ordAt]
      rw [ord_step_lcm]
      refine Nat.lcm_dvd (ih (by omega)) ?_
      rw [getD_lt [] (by omega : k < (cyclesOf xs).length)]
      have hmem := List.getElem_mem (l := cyclesOf xs) (h := (by omega : k < (cyclesOf xs).length))
      generalize (cyclesOf xs)[k] = c at hmem
      rw [cyclesOf_rnd hp] at hmem
      obtain ⟨i, h1, _, rfl⟩ := rnd_mem hmem
      rw [orbL_len]
      exact per_dvd hp.isP h1 (hm i h1)
  exact key _ (Nat.le_refl _)
end Go.Proofs.Ytkmkcbkfakoomaa
