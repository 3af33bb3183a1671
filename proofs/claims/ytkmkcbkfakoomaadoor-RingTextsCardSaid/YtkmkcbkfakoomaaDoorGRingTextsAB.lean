/- Facts and contracts that the claim uses. No condition of its own. -/
import Derived.Test.YtkmkcbkfakoomaaDoorGRingTextsAA
set_option linter.unusedVariables false
set_option linter.unusedSimpArgs false
namespace Go.Proofs.YtkmkcbkfakoomaaDoor
def itr (f : Nat → Nat) : Nat → Nat → Nat
  | 0, i => i
  | k + 1, i => f (itr f k i)
theorem itr_add (f : Nat → Nat) (a : Nat) : ∀ b i, itr f (a + b) i = itr f b (itr f a i)
  | 0, i => rfl
  | b + 1, i => by rw [← Nat.add_assoc]; simp only [itr]; rw [itr_add f a b i]
theorem itr_mul {f : Nat → Nat} {L i : Nat} (h : itr f L i = i) : ∀ q, itr f (L * q) i = i
  | 0 => rfl
  | q + 1 => by rw [Nat.mul_succ, itr_add, itr_mul h q, h]
theorem itr_lt {f : Nat → Nat} {n : Nat} (hf : ∀ i, i < n → f i < n) : ∀ k i, i < n → itr f k i < n
  | 0, i, h => h
  | k + 1, i, h => hf _ (itr_lt hf k i h)
theorem itr_inj {f : Nat → Nat} {n : Nat} (hf : ∀ i, i < n → f i < n) (hi : ∀ i j, i < n → j < n → f i = f j → i = j) : ∀ k i j, i < n → j < n → itr f k i = itr f k j → i = j
  | 0, i, j, _, _, h => h
  | k + 1, i, j, h1, h2, h => itr_inj hf hi k i j h1 h2 (hi _ _ (itr_lt hf k i h1) (itr_lt hf k j h2) h)
def fn (xs : List Int) (i : Nat) : Nat := (xs.getD i 0).toNat
structure Pm (xs : List Int) : Prop where
  rng : InRange xs
  nd : xs.Nodup
theorem Pm.lt {xs : List Int} (h : Pm xs) : ∀ i, i < xs.length → fn xs i < xs.length := fun i hi => by
  have := h.rng i hi; unfold fn; omega
theorem Pm.val {xs : List Int} (h : Pm xs) {i : Nat} (hi : i < xs.length) : xs.getD i 0 = (fn xs i : Int) := by
  have := h.rng i hi; unfold fn; omega
theorem Pm.inj {xs : List Int} (h : Pm xs) : ∀ i j, i < xs.length → j < xs.length → fn xs i = fn xs j → i = j := fun i j hi hj e => by
  have e2 : xs.getD i 0 = xs.getD j 0 := by rw [h.val hi, h.val hj, e]
  rw [getD_lt 0 hi, getD_lt 0 hj] at e2
  exact (List.getElem_inj h.nd).1 e2
structure Ob (xs : List Int) (k : Nat) (D0 : Nat → Bool) (x : Nat) (D : Nat → Bool) (c : List Int) : Prop where
  x_eq : x = itr (fn xs) c.length k
  c_eq : ∀ j, j < c.length → c.getD j 0 = (itr (fn xs) j k : Int)
  dis : ∀ i j, i < j → j < c.length → itr (fn xs) i k ≠ itr (fn xs) j k
  mkd : ∀ y, D y = true ↔ D0 y = true ∨ ∃ j, j < c.length ∧ y = itr (fn xs) j k
theorem wk_ob {xs : List Int} (hp : Pm xs) {k : Nat} {D0 : Nat → Bool} : ∀ (f x : Nat) (D : Nat → Bool) (c : List Int), x < xs.length → freeN D xs.length ≤ f → Ob xs k D0 x D c →
    ∃ x' D' c', wk xs f x D c = (c', D') ∧ Ob xs k D0 x' D' c' ∧ D' x' = true
  | 0, x, D, c, hx, hf, H => by
    have hD : D x = true := by
      cases hD : D x
      · have := freeN_pos hD hx; omega
      · rfl
    exact ⟨x, D, c, rfl, H, hD⟩
  | f + 1, x, D, c, hx, hf, H => by
    cases hD : D x
    · have hm := freeN_mark hD xs.length hx
      simp only [wk, hD]
      refine wk_ob hp f _ _ _ (hp.lt x hx) (by omega) ⟨?_, fun j hj => ?_, fun i j hij hj => ?_, fun y => ?_⟩
      · show fn xs x = _
        rw [H.x_eq]; simp [itr]
      · by_cases e : j < c.length
        · have := H.c_eq j e
          simpa [List.getD, List.getElem?_append_left e] using this
        · obtain rfl : j = c.length := by simp at hj; omega
          rw [← H.x_eq]; simp [List.getD]
      · by_cases e : j < c.length
        · exact H.dis i j hij e
        · obtain rfl : j = c.length := by simp at hj; omega
          rw [← H.x_eq]
          intro e2
          have := (H.mkd x).2 (.inr ⟨i, hij, e2.symm⟩)
          rw [hD] at this; cases this
      · unfold mark
        split
        · rename_i e
          subst e
          refine ⟨fun _ => .inr ⟨c.length, by simp, H.x_eq⟩, fun _ => rfl⟩
        · rename_i e
          rw [H.mkd y]
          refine or_congr Iff.rfl ⟨fun ⟨j, h1, h2⟩ => ⟨j, by simp; omega, h2⟩, fun ⟨j, h1, h2⟩ => ⟨j, ?_, h2⟩⟩
          apply Classical.byContradiction
          intro hc
          obtain rfl : j = c.length := by simp at h1; omega
          exact e (by rw [h2, H.x_eq])
    · exact ⟨x, D, c, by simp [wk, hD], H, hD⟩
structure Mk (xs : List Int) (cs : List (List Int)) (D : Nat → Bool) : Prop where
  pre : ∀ y, y < xs.length → D (fn xs y) = true → D y = true
  on : ∀ y, y < xs.length → D y = true → ∃ c ∈ cs, itr (fn xs) c.length y = y
theorem cyc_closed {xs : List Int} (hp : Pm xs) {k : Nat} (hk : k < xs.length) {D0 D : Nat → Bool} {c : List Int} {x : Nat} (H : Ob xs k D0 x D c) (hD : D x = true) (h0 : D0 k = false) (hpre : ∀ y, y < xs.length → D0 (fn xs y) = true → D0 y = true) :
    0 < c.length ∧ itr (fn xs) c.length k = k := by
  have back : ∀ m, D0 (itr (fn xs) m k) = true → D0 k = true := by
    intro m
    induction m with
    | zero => exact fun h => h
    | succ m ih => exact fun h => ih (hpre _ (itr_lt hp.lt m k hk) h)
  have hx := H.x_eq
  rcases (H.mkd x).1 hD with h | ⟨j, hj, e⟩
  · rw [hx] at h
    have := back _ h
    rw [h0] at this; cases this
  · rw [hx] at e
    have hpos : 0 < c.length := by omega
    refine ⟨hpos, ?_⟩
    cases j with
    | zero => exact e
    | succ j =>
      obtain ⟨m, hm⟩ : ∃ m, c.length = m + 1 := ⟨c.length - 1, by omega⟩
      rw [hm] at e
      have e2 : itr (fn xs) m k = itr (fn xs) j k := hp.inj _ _ (itr_lt hp.lt m k hk) (itr_lt hp.lt j k hk) e
      exact absurd e2.symm (H.dis j m (by omega) (by omega))
theorem cyc_mk {xs : List Int} (hp : Pm xs) : ∀ k, k ≤ xs.length → Mk xs (cycAt xs k).1 (cycAt xs k).2 ∧ ∀ i, i < k → (cycAt xs k).2 i = true
  | 0, _ => ⟨⟨fun _ _ h => by simp [cycAt] at h, fun _ _ h => by simp [cycAt] at h⟩, fun i hi => by omega⟩
  | k + 1, hk => by
    obtain ⟨ih, ihd⟩ := cyc_mk hp k (by omega)
    obtain ⟨x, D, c, hw, H, hD⟩ := wk_ob hp (k := k) (D0 := (cycAt xs k).2) xs.length k (cycAt xs k).2 [] (by omega) (freeN_le _ _) ⟨rfl, fun j hj => by simp at hj, fun i j _ hj => by simp at hj, fun y => by simp⟩
    have keep : ∀ y, (cycAt xs k).2 y = true → D y = true := fun y hy => (H.mkd y).2 (.inl hy)
    by_cases h0 : (cycAt xs k).2 k = true
    · have hc : c = [] := by
        have : wk xs xs.length k (cycAt xs k).2 [] = ([], (cycAt xs k).2) := by
          cases hl : xs.length <;> simp [wk, h0]
        rw [this] at hw; cases hw; rfl
      have hcy := cycAt_succ_none hw hc
      have hDD : ∀ y, D y = true ↔ (cycAt xs k).2 y = true := fun y => by
        rw [H.mkd y]; subst hc; simp
      rw [hcy]
      refine ⟨⟨fun y hy h => (hDD y).2 (ih.pre y hy ((hDD _).1 h)), fun y hy h => ih.on y hy ((hDD y).1 h)⟩, fun i hi => ?_⟩
      by_cases e : i = k
      · subst e; exact keep _ h0
      · exact keep _ (ihd i (by omega))
    · have h0 : (cycAt xs k).2 k = false := by cases h : (cycAt xs k).2 k <;> simp_all
      obtain ⟨hpos, hcl⟩ := cyc_closed hp (by omega) H hD h0 ih.pre
      have hcy := cycAt_succ_some hw (by intro e; rw [e] at hpos; simp at hpos)
      rw [hcy]
      refine ⟨⟨fun y hy h => ?_, fun y hy h => ?_⟩, fun i hi => ?_⟩
      · rcases (H.mkd _).1 h with h1 | ⟨j, hj, e⟩
        · exact keep _ (ih.pre y hy h1)
        · cases j with
          | zero =>
            obtain ⟨m, hm⟩ : ∃ m, c.length = m + 1 := ⟨c.length - 1, by omega⟩
            rw [hm] at hcl
            have : y = itr (fn xs) m k := hp.inj _ _ hy (itr_lt hp.lt m k (by omega)) (by rw [e]; exact hcl.symm)
            exact (H.mkd y).2 (.inr ⟨m, by omega, this⟩)
          | succ j =>
            have : y = itr (fn xs) j k := hp.inj _ _ hy (itr_lt hp.lt j k (by omega)) e
            exact (H.mkd y).2 (.inr ⟨j, by omega, this⟩)
      · rcases (H.mkd y).1 h with h1 | ⟨j, hj, rfl⟩
        · obtain ⟨c', h2, h3⟩ := ih.on y hy h1
          exact ⟨c', by simp [h2], h3⟩
        · exact ⟨c, by simp, by rw [← itr_add, Nat.add_comm, itr_add, hcl]⟩
      · by_cases e : i = k
        · subst e; exact (H.mkd _).2 (.inr ⟨0, hpos, rfl⟩)
        · exact keep _ (ihd i (by omega))
def tabN (n : Nat) (F : Nat → Nat) : List Int := (List.range n).map fun i => (F i : Int)
@[simp] theorem tab_len (n : Nat) (F : Nat → Nat) : (tabN n F).length = n := by simp [tabN]
theorem tabN_get {n : Nat} {F : Nat → Nat} {i : Nat} (h : i < n) : (tabN n F).getD i 0 = (F i : Int) := by simp [tabN, List.getD, h]
theorem Pm.tabN {xs : List Int} (h : Pm xs) : xs = tabN xs.length (fn xs) := by
  apply List.ext_getElem
  · simp
  · intro i h1 h2
    have := h.val h1
    rw [getD_lt 0 h1] at this
    rw [this]; simp [Go.Proofs.YtkmkcbkfakoomaaDoor.tabN]
end Go.Proofs.YtkmkcbkfakoomaaDoor
