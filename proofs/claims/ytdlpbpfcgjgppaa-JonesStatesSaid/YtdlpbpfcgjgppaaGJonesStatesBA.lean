/- Facts and contracts that the claim uses. No condition of its own. -/
import Derived.Test.YtdlpbpfcgjgppaaGJonesStatesAZ
set_option linter.unusedVariables false
set_option linter.unusedSimpArgs false
namespace Go.Proofs.Ytdlpbpfcgjgppaa
def itr (f : Nat → Nat) : Nat → Nat → Nat
  | 0, i => i
  | k + 1, i => f (itr f k i)
theorem itr_add (f : Nat → Nat) (a : Nat) : ∀ b i, itr f (a + b) i = itr f b (itr f a i)
  | 0, i => rfl
  | b + 1, i => by rw [← Nat.add_assoc]; simp only [itr]; rw [itr_add f a b i]
theorem itr_mul {f : Nat → Nat} {L i : Nat} (h : itr f L i = i) : ∀ q, itr f (L * q) i = i
  | 0 => rfl
  | q + 1 => by rw [Nat.mul_succ, itr_add, itr_mul h q, h]
theorem itr_lt {f : Nat → Nat} {n : Nat} (hf : ∀ i, i < n → f i < n) : ∀ k i, i < n → itr f k i < n
  | 0, i, h => h
  | k + 1, i, h => hf _ (itr_lt hf k i h)
def fn (xs : List Int) (i : Nat) : Nat := (xs.getD i 0).toNat
structure Pm (xs : List Int) : Prop where
  rng : InRange xs
  nd : xs.Nodup
theorem Pm.lt {xs : List Int} (h : Pm xs) : ∀ i, i < xs.length → fn xs i < xs.length := fun i hi => by
  have := h.rng i hi; unfold fn; omega
theorem Pm.val {xs : List Int} (h : Pm xs) {i : Nat} (hi : i < xs.length) : xs.getD i 0 = (fn xs i : Int) := by
  have := h.rng i hi; unfold fn; omega
theorem Pm.inj {xs : List Int} (h : Pm xs) : ∀ i j, i < xs.length → j < xs.length → fn xs i = fn xs j → i = j := fun i j hi hj e => by
  have e2 : xs.getD i 0 = xs.getD j 0 := by rw [h.val hi, h.val hj, e]
  rw [getD_lt 0 hi, getD_lt 0 hj] at e2
  exact (List.getElem_inj h.nd).1 e2
structure Ob (xs : List Int) (k : Nat) (D0 : Nat → Bool) (x : Nat) (D : Nat → Bool) (c : List Int) : Prop where
  x_eq : x = itr (fn xs) c.length k
  c_eq : ∀ j, j < c.length → c.getD j 0 = (itr (fn xs) j k : Int)
  dis : ∀ i j, i < j → j < c.length → itr (fn xs) i k ≠ itr (fn xs) j k
  mkd : ∀ y, D y = true ↔ D0 y = true ∨ ∃ j, j < c.length ∧ y = itr (fn xs) j k
theorem wk_ob {xs : List Int} (hp : Pm xs) {k : Nat} {D0 : Nat → Bool} : ∀ (f x : Nat) (D : Nat → Bool) (c : List Int), x < xs.length → freeN D xs.length ≤ f → Ob xs k D0 x D c →
    ∃ x' D' c', wk xs f x D c = (c', D') ∧ Ob xs k D0 x' D' c' ∧ D' x' = true
  | 0, x, D, c, hx, hf, H => by
    have hD : D x = true := by
      cases hD : D x
      · have := freeN_pos hD hx; omega
      · rfl
    exact ⟨x, D, c, rfl, H, hD⟩
  | f + 1, x, D, c, hx, hf, H => by
    cases hD : D x
    · have hm := freeN_mark hD xs.length hx
      simp only [wk, hD]
      refine wk_ob hp f _ _ _ (hp.lt x hx) (by omega) ⟨?_, fun j hj => ?_, fun i j hij hj => ?_, fun y => ?_⟩
      · show fn xs x = _
        rw [H.x_eq]; simp [itr]
      · by_cases e : j < c.length
        · have := H.c_eq j e
          simpa [List.getD, List.getElem?_append_left e] using this
        · obtain rfl : j = c.length := by simp at hj; omega
          rw [← H.x_eq]; simp [List.getD]
      · by_cases e : j < c.length
        · exact H.dis i j hij e
        · obtain rfl : j = c.length := by simp at hj; omega
          rw [← H.x_eq]
          intro e2
          have := (H.mkd x).2 (.inr ⟨i, hij, e2.symm⟩)
          rw [hD] at this; cases this
      · unfold mark
        split
        · rename_i e
          subst e
          refine ⟨fun _ => .inr ⟨c.length, by simp, H.x_eq⟩, fun _ => rfl⟩
        · rename_i e
          rw [H.mkd y]
          refine or_congr Iff.rfl ⟨fun ⟨j, h1, h2⟩ => ⟨j, by simp; omega, h2⟩, fun ⟨j, h1, h2⟩ => ⟨j, ?_, h2⟩⟩
          apply Classical.byContradiction
          intro hc
          obtain rfl : j = c.length := by simp at h1; omega
          exact e (by rw [h2, H.x_eq])
    · exact ⟨x, D, c, by simp [wk, hD], H, hD⟩
structure Mk (xs : List Int) (cs : List (List Int)) (D : Nat → Bool) : Prop where
  pre : ∀ y, y < xs.length → D (fn xs y) = true → D y = true
  on : ∀ y, y < xs.length → D y = true → ∃ c ∈ cs, itr (fn xs) c.length y = y
theorem cyc_closed {xs : List Int} (hp : Pm xs) {k : Nat} (hk : k < xs.length) {D0 D : Nat → Bool} {c : List Int} {x : Nat} (H : Ob xs k D0 x D c) (hD : D x = true) (h0 : D0 k = false) (hpre : ∀ y, y < xs.length → D0 (fn xs y) = true → D0 y = true) :
    0 < c.length ∧ itr (fn xs) c.length k = k := by
  have back : ∀ m, D0 (itr (fn xs) m k) = true → D0 k = true := by
    intro m
    induction m with
    | zero => exact fun h => h
    | succ m ih => exact fun h => ih (hpre _ (itr_lt hp.lt m k hk) h)
  have hx := H.x_eq
  rcases (H.mkd x).1 hD with h | ⟨j, hj, e⟩
  · rw [hx] at h
    have := back _ h
    rw [h0] at this; cases this
  · rw [hx] at e
    have hpos : 0 < c.length := by omega
    refine ⟨hpos, ?_⟩
    cases j with
    | zero => exact e
    | succ j =>
      obtain ⟨m, hm⟩ : ∃ m, c.length = m + 1 := ⟨c.length - 1, by omega⟩
      rw [hm] at e
      have e2 : itr (fn xs) m k = itr (fn xs) j k := hp.inj _ _ (itr_lt hp.lt m k hk) (itr_lt hp.lt j k hk) e
      exact absurd e2.symm (H.dis j m (by omega) (by omega))
theorem cyc_mk {xs : List Int} (hp : Pm xs) : ∀ k, k ≤ xs.length → Mk xs (cycAt xs k).1 (cycAt xs k).2 ∧ ∀ i, i < k → (cycAt xs k).2 i = true
  | 0, _ => ⟨⟨fun _ _ h => by simp [cycAt] at h, fun _ _ h => by simp [cycAt] at h⟩, fun i hi => by omega⟩
  | k + 1, hk => by
    obtain ⟨ih, ihd⟩ := cyc_mk hp k (by omega)
    obtain ⟨x, D, c, hw, H, hD⟩ := wk_ob hp (k := k) (D0 := (cycAt xs k).2) xs.length k (cycAt xs k).2 [] (by omega) (freeN_le _ _) ⟨rfl, fun j hj => by simp at hj, fun i j _ hj => by simp at hj, fun y => by simp⟩
    have keep : ∀ y, (cycAt xs k).2 y = true → D y = true := fun y hy => (H.mkd y).2 (.inl hy)
    by_cases h0 : (cycAt xs k).2 k = true
    · have hc : c = [] := by
        have : wk xs xs.length k (cycAt xs k).2 [] = ([], (cycAt xs k).2) := by
          cases hl : xs.length <;> simp [wk, h0]
        rw [this] at hw; cases hw; rfl
      have hcy := cycAt_succ_none hw hc
      have hDD : ∀ y, D y = true ↔ (cycAt xs k).2 y = true := fun y => by
        rw [H.mkd y]; subst hc; simp
      rw [hcy]
      refine ⟨⟨fun y hy h => (hDD y).2 (ih.pre y hy ((hDD _).1 h)), fun y hy h => ih.on y hy ((hDD y).1 h)⟩, fun i hi => ?_⟩
      by_cases e : i = k
      · subst e; exact keep _ h0
      · exact keep _ (ihd i (by omega))
    · have h0 : (cycAt xs k).2 k = false := by cases h : (cycAt xs k).2 k <;> simp_all
      obtain ⟨hpos, hcl⟩ := cyc_closed hp (by omega) H hD h0 ih.pre
      have hcy := cycAt_succ_some hw (by intro e; rw [e] at hpos; simp at hpos)
      rw [hcy]
      refine ⟨⟨fun y hy h => ?_, fun y hy h => ?_⟩, fun i hi => ?_⟩
      · rcases (H.mkd _).1 h with h1 | ⟨j, hj, e⟩
        · exact keep _ (ih.pre y hy h1)
        · cases j with
          | zero =>
            obtain ⟨m, hm⟩ : ∃ m, c.length = m + 1 := ⟨c.length - 1, by omega⟩
            rw [hm] at hcl
            have : y = itr (fn xs) m k := hp.inj _ _ hy (itr_lt hp.lt m k (by omega)) (by rw [e]; exact hcl.symm)
            exact (H.mkd y).2 (.inr ⟨m, by omega, this⟩)
          | succ j =>
            have : y = itr (fn xs) j k := hp.inj _ _ hy (itr_lt hp.lt j k (by omega)) e
            exact (H.mkd y).2 (.inr ⟨j, by omega, this⟩)
      · rcases (H.mkd y).1 h with h1 | ⟨j, hj, rfl⟩
        · obtain ⟨c', h2, h3⟩ := ih.on y hy h1
          exact ⟨c', by simp [h2], h3⟩
        · exact ⟨c, by simp, by rw [← itr_add, Nat.add_comm, itr_add, hcl]⟩
      · by_cases e : i = k
        · subst e; exact (H.mkd _).2 (.inr ⟨0, hpos, rfl⟩)
        · exact keep _ (ihd i (by omega))
def tabN (n : Nat) (F : Nat → Nat) : List Int := (List.range n).map fun i => (F i : Int)
@[simp] theorem tab_len (n : Nat) (F : Nat → Nat) : (tabN n F).length = n := by simp [tabN]
theorem tabN_get {n : Nat} {F : Nat → Nat} {i : Nat} (h : i < n) : (tabN n F).getD i 0 = (F i : Int) := by simp [tabN, List.getD, h]
theorem tab_ext {n : Nat} {F G : Nat → Nat} (h : ∀ i, i < n → F i = G i) : tabN n F = tabN n G := by
  unfold tabN
  exact List.map_congr_left (fun i hi => by rw [h i (by simpa using hi)])
theorem Pm.tabN {xs : List Int} (h : Pm xs) : xs = tabN xs.length (fn xs) := by
  apply List.ext_getElem
  · simp
  · intro i h1 h2
    have := h.val h1
    rw [getD_lt 0 h1] at this
    rw [this]; simp [Go.Proofs.Ytdlpbpfcgjgppaa.tabN]
end Go.Proofs.Ytdlpbpfcgjgppaa

/- Facts and contracts that the claim uses. No condition of its own. -/
set_option linter.unusedVariables false
set_option linter.unusedSimpArgs false
namespace Go.Proofs.Ytdlpbpfcgjgppaa
def cnt (p : Nat → Bool) : Nat → Nat
  | 0 => 0
  | m + 1 => cnt p m + if p m then 1 else 0
structure IsP (f : Nat → Nat) (n : Nat) : Prop where
  lt : ∀ i, i < n → f i < n
  inj : ∀ i j, i < n → j < n → f i = f j → i = j
theorem itr_congr {f g : Nat → Nat} {n : Nat} (hf : ∀ i, i < n → f i < n) (h : ∀ i, i < n → f i = g i) : ∀ (j i : Nat), i < n → itr f j i = itr g j i
  | 0, _, _ => rfl
  | j + 1, i, hi => by
    simp only [itr]
    rw [← itr_congr hf h j i hi, h _ (itr_lt hf j i hi)]
theorem IsP.pm {f : Nat → Nat} {n : Nat} (h : IsP f n) : Pm (tabN n f) := by
  refine ⟨fun i hi => ?_, ?_⟩
  · have hl : (tabN n f).length = n := tab_len n f
    rw [hl] at hi ⊢
    rw [tabN_get hi]
    have := h.lt i hi
    omega
  · unfold tabN
    rw [List.Nodup, List.pairwise_map]
    refine List.Pairwise.imp_of_mem ?_ (List.nodup_range (n := n))
    intro a b ha hb hne he
    exact hne (h.inj a b (by simpa using ha) (by simpa using hb) (by exact_mod_cast he))
theorem Pm.isP {xs : List Int} (h : Pm xs) : IsP (fn xs) xs.length := ⟨h.lt, h.inj⟩
theorem fn_tab {n : Nat} {f : Nat → Nat} {i : Nat} (hi : i < n) : fn (tabN n f) i = f i := by
  unfold fn; rw [tabN_get hi]; simp
theorem Pm.per {xs : List Int} (hp : Pm xs) {i : Nat} (hi : i < xs.length) : ∃ L, 1 ≤ L ∧ L ≤ xs.length ∧ itr (fn xs) L i = i := by
  obtain ⟨hm, hd⟩ := cyc_mk hp xs.length (Nat.le_refl _)
  obtain ⟨c, h1, h2⟩ := hm.on i hi (hd i hi)
  have := cyclesOf_lens hp.rng c h1
  exact ⟨c.length, this.1, this.2, h2⟩
theorem IsP.per {f : Nat → Nat} {n : Nat} (h : IsP f n) {i : Nat} (hi : i < n) : ∃ L, 1 ≤ L ∧ L ≤ n ∧ itr f L i = i := by
  have hl : (tabN n f).length = n := tab_len n f
  obtain ⟨L, h1, h2, h3⟩ := h.pm.per (i := i) (by rw [hl]; exact hi)
  rw [hl] at h2
  refine ⟨L, h1, h2, ?_⟩
  rwa [← itr_congr h.lt (fun i hi => (fn_tab hi).symm) L i hi] at h3
theorem IsP.pre {f : Nat → Nat} {n : Nat} (h : IsP f n) {y : Nat} (hy : y < n) : ∃ u, u < n ∧ f u = y := by
  obtain ⟨L, h1, h2, h3⟩ := h.per hy
  obtain ⟨m, rfl⟩ : ∃ m, L = m + 1 := ⟨L - 1, by omega⟩
  exact ⟨itr f m y, itr_lt h.lt m y hy, h3⟩
theorem IsP.back {f : Nat → Nat} {n : Nat} (h : IsP f n) {i j k : Nat} (hi : i < n) (e : itr f j i = k) : ∃ m, itr f m k = i := by
  obtain ⟨L, h1, h2, h3⟩ := h.per hi
  have hle : j ≤ L * (j + 1) := Nat.le_trans (Nat.le_succ j) (Nat.le_mul_of_pos_left _ h1)
  refine ⟨L * (j + 1) - j, ?_⟩
  rw [← e, ← itr_add, Nat.add_sub_cancel' hle]
  exact itr_mul h3 _
def mn (f : Nat → Nat) (k : Nat) : Prop := ∀ j, k ≤ itr f j k
noncomputable instance (f : Nat → Nat) (k : Nat) : Decidable (mn f k) := Classical.propDecidable _
section
variable {f : Nat → Nat} {N : Nat} (h : IsP f (N + 1)) (hv : f N ≠ N)
include h hv
set_option linter.unusedSectionVars false
end
end Go.Proofs.Ytdlpbpfcgjgppaa

/- Facts and contracts that the claim uses. No condition of its own. -/
set_option linter.unusedVariables false
set_option linter.unusedSimpArgs false
namespace Go.Proofs.Ytdlpbpfcgjgppaa
/-! ### what is left -/
def rem (n : Nat) (p : List Nat) : List Nat := (List.range n).filter fun i => !p.contains i
end Go.Proofs.Ytdlpbpfcgjgppaa

/- Facts and contracts that the claim uses. No condition of its own. -/
set_option linter.unusedVariables false
set_option linter.unusedSimpArgs false
namespace Go.Proofs.Ytdlpbpfcgjgppaa
/-! ### supports -/
def Sup (B : Int) (a : LP) : Prop := ∀ e, a.f e ≠ 0 → -B ≤ e ∧ e ≤ B
theorem Sup.mono {B C : Int} {a : LP} (h : Sup B a) (hc : B ≤ C) : Sup C a := fun e he => by have := h e he; omega
theorem Sup.add {B : Int} {a b : LP} (h1 : Sup B a) (h2 : Sup B b) : Sup B (a + b) := fun e he => by
  by_cases c : a.f e = 0
  · exact h2 e (fun hh => he (by rw [LP.add_f, c, hh]; rfl))
  · exact h1 e c
theorem Sup.smul {B : Int} {a : LP} (k : Int) (h : Sup B a) : Sup B (LP.smul k a) := fun e he => h e (fun hh => he (by rw [LP.smul_f, hh, Int.mul_zero]))
theorem Sup.neg {B : Int} {a : LP} (h : Sup B a) : Sup B (-a) := h.smul (-1)
theorem Sup.zero {B : Int} : Sup B (0 : LP) := fun e he => absurd rfl he
theorem Sup.monom {B : Int} (c i : Int) (h : -B ≤ i ∧ i ≤ B) : Sup B (LP.mono c i) := fun e he => by
  have : e = i := Classical.byContradiction fun hh => he (if_neg hh)
  omega
theorem Sup.one {B : Int} (h : 0 ≤ B) : Sup B (1 : LP) := Sup.monom 1 0 (by omega)
theorem Sup.win {B : Nat} {a : LP} (h : Sup B a) : Win a.f (-(B : Int)) (2 * B + 1) := fun e he => by have := h e he; omega
theorem Sup.mul {B C : Nat} {a b : LP} (h1 : Sup B a) (h2 : Sup C b) : Sup ((B + C : Nat) : Int) (a * b) := fun e he => by
  have h := fun i => h1 i
  apply Classical.byContradiction
  intro hc
  apply he
  rw [LP.mul_f, cvF_eq a b e h1.win]
  refine sI_zero (fun i h3 h4 => ?_)
  by_cases hb : b.f (e - i) = 0
  · rw [hb, Int.mul_zero]
  · by_cases ha : a.f i = 0
    · rw [ha, Int.zero_mul]
    · have := h2 _ hb; have := h1 _ ha; omega
end Go.Proofs.Ytdlpbpfcgjgppaa
