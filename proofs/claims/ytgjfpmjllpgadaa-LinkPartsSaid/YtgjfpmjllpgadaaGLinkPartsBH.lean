/- Components of a closed braid: classes of joined points, by their least points; the same as the cycles of the permutation. Plain facts: nothing of the program is here. -/
import Derived.Test.YtgjfpmjllpgadaaGLinkPartsAA
import Derived.Test.YtgjfpmjllpgadaaGLinkPartsBG
set_option linter.unusedVariables false
set_option linter.unusedSimpArgs false
namespace Go.Proofs.Ytgjfpmjllpgadaa

/-- the points below k that are in the set of i -/
def clsK (r : Nat → Nat) (k i : Nat) : List Int := ((List.range k).filter fun z => decide (r z = r i)).map fun (z : Nat) => (z : Int)
/-- the first points of their sets below k -/
def fstK (r : Nat → Nat) (k : Nat) : List Nat := (List.range k).filter fun i => (List.range i).all fun j => decide (r j ≠ r i)
def parK (r : Nat → Nat) (k : Nat) : List (List Int) := (fstK r k).map (clsK r k)
theorem mem_fstK {r : Nat → Nat} {k i : Nat} : i ∈ fstK r k ↔ i < k ∧ ∀ j, j < i → r j ≠ r i := by
  simp [fstK]
theorem fstK_succ (r : Nat → Nat) (k : Nat) : fstK r (k + 1) = fstK r k ++ (if (List.range k).all fun j => decide (r j ≠ r k) then [k] else []) := by
  unfold fstK
  rw [List.range_succ, List.filter_append]
  congr 1
  rw [List.filter_cons, List.filter_nil]
theorem clsK_succ (r : Nat → Nat) (k i : Nat) : clsK r (k + 1) i = clsK r k i ++ (if r k = r i then [(k : Int)] else []) := by
  unfold clsK
  rw [List.range_succ, List.filter_append, List.map_append]
  congr 1
  by_cases h : r k = r i <;> simp [h]
theorem clsK_head {r : Nat → Nat} {k i : Nat} (h : i ∈ fstK r k) : (clsK r k i).getD 0 0 = (i : Int) ∧ 1 ≤ (clsK r k i).length := by
  induction k with
  | zero => simp [fstK] at h
  | succ k ih =>
    rw [clsK_succ]
    rw [mem_fstK] at h
    by_cases hk : i < k
    · obtain ⟨h1, h2⟩ := ih (mem_fstK.2 ⟨hk, h.2⟩)
      refine ⟨?_, by rw [List.length_append]; omega⟩
      simp only [List.getD] at h1 ⊢
      rw [List.getElem?_append_left (by omega)]
      exact h1
    · obtain rfl : i = k := by omega
      have : clsK r i i = [] := by
        unfold clsK
        rw [List.map_eq_nil_iff, List.filter_eq_nil_iff]
        intro j hj
        simpa using h.2 j (List.mem_range.1 hj)
      rw [this, if_pos rfl]
      simp
/-- there is just one first point of the set of k -/
theorem fstK_ex (r : Nat → Nat) : ∀ {k x : Nat}, x < k → ∃ i, i ∈ fstK r k ∧ r i = r x ∧ i ≤ x := by
  intro k x
  induction x using Nat.strongRecOn with
  | _ x ih =>
    intro hx
    by_cases h : ∃ j, j < x ∧ r j = r x
    · obtain ⟨j, h1, h2⟩ := h
      obtain ⟨i, h3, h4, h5⟩ := ih j h1 (by omega)
      exact ⟨i, h3, by rw [h4, h2], by omega⟩
    · exact ⟨x, mem_fstK.2 ⟨hx, fun j hj e => h ⟨j, hj, e⟩⟩, rfl, Nat.le_refl _⟩
theorem fstK_uniq {r : Nat → Nat} {k i j : Nat} (hi : i ∈ fstK r k) (hj : j ∈ fstK r k) (h : r i = r j) : i = j := by
  have h1 := mem_fstK.1 hi
  have h2 := mem_fstK.1 hj
  rcases Nat.lt_trichotomy i j with h3 | h3 | h3
  · exact absurd h (h2.2 i h3)
  · exact h3
  · exact absurd h.symm (h1.2 j h3)
theorem fstK_nodup (r : Nat → Nat) (k : Nat) : (fstK r k).Nodup := List.Pairwise.filter _ List.nodup_range
/-- the place of the set of a point -/
theorem fstK_at {r : Nat → Nat} {k x : Nat} (hx : x < k) : ∃ p, p < (fstK r k).length ∧ r ((fstK r k).getD p 0) = r x ∧ ∀ p', p' < (fstK r k).length → r ((fstK r k).getD p' 0) = r x → p' = p := by
  obtain ⟨i, h1, h2, _⟩ := fstK_ex r hx
  obtain ⟨p, hp, rfl⟩ := List.getElem_of_mem h1
  have g : ∀ q, q < (fstK r k).length → (fstK r k).getD q 0 ∈ fstK r k := fun q hq => by
    rw [show (fstK r k).getD q 0 = (fstK r k)[q] by simp [List.getD, hq]]; exact List.getElem_mem hq
  have e : (fstK r k).getD p 0 = (fstK r k)[p] := by simp [List.getD, hp]
  refine ⟨p, hp, by rw [e]; exact h2, fun p' hp' h3 => ?_⟩
  have := fstK_uniq (g p' hp') h1 (by rw [h3, h2])
  rw [show (fstK r k).getD p' 0 = (fstK r k)[p'] by simp [List.getD, hp']] at this
  exact (List.getElem_inj (h₀ := hp') (h₁ := hp) (fstK_nodup r k)).1 this
/-- the next point begins a set -/
theorem parK_new {r : Nat → Nat} {k : Nat} (h : ∀ j, j < k → r j ≠ r k) : parK r (k + 1) = parK r k ++ [[(k : Int)]] := by
  unfold parK
  rw [fstK_succ, if_pos (by rw [List.all_eq_true]; intro j hj; simpa using h j (List.mem_range.1 hj)), List.map_append]
  congr 1
  · refine List.map_congr_left (fun i hi => ?_)
    rw [clsK_succ, if_neg (fun e => h i (mem_fstK.1 hi).1 e.symm), List.append_nil]
  · rw [List.map_singleton, clsK_succ, if_pos rfl]
    have : clsK r k k = [] := by
      unfold clsK
      rw [List.map_eq_nil_iff, List.filter_eq_nil_iff]
      intro j hj
      simpa using h j (List.mem_range.1 hj)
    rw [this]; rfl
/-- the next point comes to the set at the place p -/
theorem parK_old {r : Nat → Nat} {k p : Nat} (hp : p < (fstK r k).length) (h : r ((fstK r k).getD p 0) = r k) : parK r (k + 1) = (parK r k).set p ((parK r k).getD p [] ++ [(k : Int)]) := by
  have g : (fstK r k).getD p 0 = (fstK r k)[p] := by simp [List.getD, hp]
  have hm : (fstK r k)[p] ∈ fstK r k := List.getElem_mem hp
  have hlt := (mem_fstK.1 hm).1
  rw [g] at h
  have hf : fstK r (k + 1) = fstK r k := by
    rw [fstK_succ, if_neg, List.append_nil]
    intro hc
    rw [List.all_eq_true] at hc
    have := hc _ (List.mem_range.2 hlt)
    simp at this
    exact this h
  unfold parK
  rw [hf]
  apply List.ext_getElem (by simp)
  intro q h1 h2
  have hq : q < (fstK r k).length := by simpa using h1
  rw [List.getElem_map, List.getElem_set]
  by_cases e : p = q
  · subst e
    rw [if_pos rfl, clsK_succ, if_pos h.symm]
    simp [List.getD, hp]
  · rw [if_neg e, List.getElem_map, clsK_succ, if_neg, List.append_nil]
    intro hc
    apply e
    have := fstK_uniq hm (List.getElem_mem hq) (by rw [h, hc])
    exact (List.getElem_inj (h₀ := hp) (h₁ := hq) (fstK_nodup r k)).1 this
/-- ascending lists of numbers with the same members are equal -/
theorem sorted_ext : ∀ {a b : List Int}, a.Pairwise (· < ·) → b.Pairwise (· < ·) → (∀ x, x ∈ a ↔ x ∈ b) → a = b
  | [], [], _, _, _ => rfl
  | [], y :: b, _, _, h => by have := (h y).2 (by simp); cases this
  | x :: a, [], _, _, h => by have := (h x).1 (by simp); cases this
  | x :: a, y :: b, ha, hb, h => by
    have a1 := List.pairwise_cons.1 ha
    have b1 := List.pairwise_cons.1 hb
    have e : x = y := by
      rcases List.mem_cons.1 ((h x).1 (by simp)) with e | e
      · exact e
      · rcases List.mem_cons.1 ((h y).2 (by simp)) with e2 | e2
        · exact e2.symm
        · have := a1.1 y e2; have := b1.1 x e; omega
    subst e
    congr 1
    refine sorted_ext a1.2 b1.2 (fun z => ⟨fun hz => ?_, fun hz => ?_⟩)
    · rcases List.mem_cons.1 ((h z).1 (by simp [hz])) with e | e
      · have := a1.1 z hz; omega
      · exact e
    · rcases List.mem_cons.1 ((h z).2 (by simp [hz])) with e | e
      · have := b1.1 z hz; omega
      · exact e
theorem clsK_sorted (r : Nat → Nat) (k i : Nat) : (clsK r k i).Pairwise (· < ·) := by
  unfold clsK
  rw [List.pairwise_map]
  refine List.Pairwise.imp (fun h => by omega) (List.Pairwise.filter _ (List.pairwise_lt_range (n := k)))
theorem mem_clsK {r : Nat → Nat} {k i : Nat} {x : Int} : x ∈ clsK r k i ↔ ∃ z : Nat, x = (z : Int) ∧ z < k ∧ r z = r i := by
  unfold clsK
  simp only [List.mem_map, List.mem_filter, List.mem_range, decide_eq_true_eq]
  exact ⟨fun ⟨z, ⟨h1, h2⟩, h3⟩ => ⟨z, h3.symm, h1, h2⟩, fun ⟨z, h1, h2, h3⟩ => ⟨z, ⟨h2, h3⟩, h1.symm⟩⟩
/-- the pairs of a permutation -/
def prs (f : Nat → Nat) (n : Nat) : List (Nat × Nat) := (List.range n).map fun i => (i, f i)
theorem prs_succ (f : Nat → Nat) (n : Nat) : prs f (n + 1) = prs f n ++ [(n, f n)] := by simp [prs, List.range_succ]
theorem cn_itr {f : Nat → Nat} {n : Nat} (h : IsP f n) {x y : Nat} (hx : x < n) : Cn (prs f n) x y ↔ ∃ j, itr f j x = y := by
  constructor
  · intro c
    have key : ∀ {x y}, Cn (prs f n) x y → x = y ∨ (x < n ∧ y < n ∧ ∃ j, itr f j x = y) := by
      intro x y c
      induction c with
      | pair hp =>
        simp only [prs, List.mem_map, List.mem_range] at hp
        obtain ⟨i, hi, he⟩ := hp
        cases he
        exact .inr ⟨hi, h.lt _ hi, 1, rfl⟩
      | refl x => exact .inl rfl
      | symm _ ih =>
        rcases ih with rfl | ⟨h1, h2, j, h3⟩
        · exact .inl rfl
        · exact .inr ⟨h2, h1, h.back h1 h3⟩
      | trans _ _ ih1 ih2 =>
        rcases ih1 with rfl | ⟨h1, h2, j, h3⟩
        · exact ih2
        · rcases ih2 with rfl | ⟨h4, h5, j2, h6⟩
          · exact .inr ⟨h1, h2, j, h3⟩
          · exact .inr ⟨h1, h5, j + j2, by rw [itr_add, h3, h6]⟩
    rcases key c with rfl | ⟨_, _, h3⟩
    · exact ⟨0, rfl⟩
    · exact h3
  · rintro ⟨j, rfl⟩
    induction j with
    | zero => exact .refl x
    | succ j ih =>
      refine ih.trans (.pair ?_)
      simp only [prs, List.mem_map, List.mem_range]
      exact ⟨_, itr_lt h.lt j x hx, rfl⟩
/-- the names of the sets of the cycles -/
def nam (f : Nat → Nat) (n : Nat) : Nat → Nat := joinA id (prs f n)
theorem nam_itr {f : Nat → Nat} {n : Nat} (h : IsP f n) {x y : Nat} (hx : x < n) : nam f n x = nam f n y ↔ ∃ j, itr f j x = y := by
  unfold nam
  rw [joinA_cn, cn_itr h hx]
theorem fst_mn {f : Nat → Nat} {n : Nat} (h : IsP f n) {i : Nat} (hi : i < n) : (∀ j, j < i → nam f n j ≠ nam f n i) ↔ mn f i := by
  constructor
  · intro h1 j
    rcases Nat.lt_or_ge (itr f j i) i with h2 | h2
    · exact absurd ((nam_itr h hi).2 ⟨j, rfl⟩).symm (h1 _ h2)
    · exact h2
  · intro h1 j hj e
    obtain ⟨m, hm⟩ := (nam_itr h hi).1 e.symm
    have := h1 m
    omega
theorem orbL_nodup {f : Nat → Nat} {n i : Nat} (h : IsP f n) (hi : i < n) : (orbL f i (per f i)).Nodup := by
  unfold orbL
  refine List.pairwise_map.2 (List.Pairwise.imp_of_mem (fun {a b} ha hb hab e => ?_) (List.pairwise_lt_range (n := per f i)))
  obtain ⟨h1, h2, h3, _⟩ := per_spec h hi
  have hb := List.mem_range.1 hb
  have e : itr f a i = itr f b i := by omega
  have := itr_inj h.lt h.inj a i (itr f (b - a) i) hi (itr_lt h.lt _ i hi) (by rw [← itr_add, Nat.sub_add_cancel (by omega)]; exact e)
  exact h3 (b - a) (by omega) (by omega) this.symm
theorem orbL_all {f : Nat → Nat} {n i : Nat} (h : IsP f n) (hi : i < n) (x : Int) : x ∈ orbL f i (per f i) ↔ ∃ z : Nat, x = (z : Int) ∧ z < n ∧ nam f n z = nam f n i := by
  constructor
  · intro hx
    obtain ⟨j, _, rfl⟩ := orbL_mem hx
    exact ⟨_, rfl, itr_lt h.lt j i hi, ((nam_itr h hi).2 ⟨j, rfl⟩).symm⟩
  · rintro ⟨z, rfl, hz, hn⟩
    obtain ⟨j, rfl⟩ := (nam_itr h hi).1 hn.symm
    obtain ⟨h1, h2, h3, _⟩ := per_spec h hi
    rw [itr_mod h2]
    unfold orbL
    exact List.mem_map.2 ⟨_, List.mem_range.2 (Nat.mod_lt _ h1), rfl⟩
/-- an ascending list with the members of a cycle is the set -/
theorem orb_cls {f : Nat → Nat} {n i : Nat} (h : IsP f n) (hi : i < n) {ys : List Int} (hp : ys.Perm (orbL f i (per f i))) (hs : ys.Pairwise (· ≤ ·)) : ys = clsK (nam f n) n i := by
  have hnd : ys.Nodup := hp.nodup_iff.2 (orbL_nodup h hi)
  refine sorted_ext (List.Pairwise.imp_of_mem (fun {a b} _ _ hab => ?_) (List.Pairwise.and hs hnd)) (clsK_sorted _ _ _) (fun x => ?_)
  · have := hab.1; have := hab.2; omega
  · rw [hp.mem_iff, orbL_all h hi, mem_clsK]
end Go.Proofs.Ytgjfpmjllpgadaa
