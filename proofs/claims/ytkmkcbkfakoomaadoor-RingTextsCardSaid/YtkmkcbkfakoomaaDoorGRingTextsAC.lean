/- Facts and contracts that the claim uses. No condition of its own. -/
import Derived.Test.YtkmkcbkfakoomaaDoorGRingTextsAB
import Derived.Test.YtkmkcbkfakoomaaDoorGRingTextsAA
set_option linter.unusedVariables false
set_option linter.unusedSimpArgs false
namespace Go.Proofs.YtkmkcbkfakoomaaDoor
structure IsP (f : Nat → Nat) (n : Nat) : Prop where
  lt : ∀ i, i < n → f i < n
  inj : ∀ i j, i < n → j < n → f i = f j → i = j
theorem itr_congr {f g : Nat → Nat} {n : Nat} (hf : ∀ i, i < n → f i < n) (h : ∀ i, i < n → f i = g i) : ∀ (j i : Nat), i < n → itr f j i = itr g j i
  | 0, _, _ => rfl
  | j + 1, i, hi => by
    simp only [itr]
    rw [← itr_congr hf h j i hi, h _ (itr_lt hf j i hi)]
theorem IsP.pm {f : Nat → Nat} {n : Nat} (h : IsP f n) : Pm (tabN n f) := by
  refine ⟨fun i hi => ?_, ?_⟩
  · have hl : (tabN n f).length = n := tab_len n f
    rw [hl] at hi ⊢
    rw [tabN_get hi]
    have := h.lt i hi
    omega
  · unfold tabN
    rw [List.Nodup, List.pairwise_map]
    refine List.Pairwise.imp_of_mem ?_ (List.nodup_range (n := n))
    intro a b ha hb hne he
    exact hne (h.inj a b (by simpa using ha) (by simpa using hb) (by exact_mod_cast he))
theorem Pm.isP {xs : List Int} (h : Pm xs) : IsP (fn xs) xs.length := ⟨h.lt, h.inj⟩
theorem fn_tab {n : Nat} {f : Nat → Nat} {i : Nat} (hi : i < n) : fn (tabN n f) i = f i := by
  unfold fn; rw [tabN_get hi]; simp
theorem Pm.per {xs : List Int} (hp : Pm xs) {i : Nat} (hi : i < xs.length) : ∃ L, 1 ≤ L ∧ L ≤ xs.length ∧ itr (fn xs) L i = i := by
  obtain ⟨hm, hd⟩ := cyc_mk hp xs.length (Nat.le_refl _)
  obtain ⟨c, h1, h2⟩ := hm.on i hi (hd i hi)
  have := cyclesOf_lens hp.rng c h1
  exact ⟨c.length, this.1, this.2, h2⟩
theorem IsP.per {f : Nat → Nat} {n : Nat} (h : IsP f n) {i : Nat} (hi : i < n) : ∃ L, 1 ≤ L ∧ L ≤ n ∧ itr f L i = i := by
  have hl : (tabN n f).length = n := tab_len n f
  obtain ⟨L, h1, h2, h3⟩ := h.pm.per (i := i) (by rw [hl]; exact hi)
  rw [hl] at h2
  refine ⟨L, h1, h2, ?_⟩
  rwa [← itr_congr h.lt (fun i hi => (fn_tab hi).symm) L i hi] at h3
theorem IsP.pre {f : Nat → Nat} {n : Nat} (h : IsP f n) {y : Nat} (hy : y < n) : ∃ u, u < n ∧ f u = y := by
  obtain ⟨L, h1, h2, h3⟩ := h.per hy
  obtain ⟨m, rfl⟩ : ∃ m, L = m + 1 := ⟨L - 1, by omega⟩
  exact ⟨itr f m y, itr_lt h.lt m y hy, h3⟩
theorem IsP.back {f : Nat → Nat} {n : Nat} (h : IsP f n) {i j k : Nat} (hi : i < n) (e : itr f j i = k) : ∃ m, itr f m k = i := by
  obtain ⟨L, h1, h2, h3⟩ := h.per hi
  have hle : j ≤ L * (j + 1) := Nat.le_trans (Nat.le_succ j) (Nat.le_mul_of_pos_left _ h1)
  refine ⟨L * (j + 1) - j, ?_⟩
  rw [← e, ← itr_add, Nat.add_sub_cancel' hle]
  exact itr_mul h3 _
def mn (f : Nat → Nat) (k : Nat) : Prop := ∀ j, k ≤ itr f j k
noncomputable instance (f : Nat → Nat) (k : Nat) : Decidable (mn f k) := Classical.propDecidable _
section
variable {f : Nat → Nat} {N : Nat} (h : IsP f (N + 1)) (hv : f N ≠ N)
include h hv
set_option linter.unusedSectionVars false
end
end Go.Proofs.YtkmkcbkfakoomaaDoor

/- Facts and contracts that the claim uses. No condition of its own. -/
set_option linter.unusedVariables false
set_option linter.unusedSimpArgs false
namespace Go.Proofs.YtkmkcbkfakoomaaDoor
abbrev Fn := Nat → Nat
structure Pe (n : Nat) (F : Fn) : Prop where
  lt : ∀ i, i < n → F i < n
  inj : ∀ i j, i < n → j < n → F i = F j → i = j
  out : ∀ i, n ≤ i → F i = i
def cmp (F G : Fn) : Fn := fun i => G (F i)
theorem Pe.ext {n : Nat} {F G : Fn} (h : Pe n F) (h' : Pe n G) (e : ∀ i, i < n → F i = G i) : F = G := by
  funext i
  by_cases c : i < n
  · exact e i c
  · rw [h.out i (by omega), h'.out i (by omega)]
theorem Pe.one (n : Nat) : Pe n id := ⟨fun _ h => h, fun _ _ _ _ h => h, fun _ _ => rfl⟩
theorem Pe.mul {n : Nat} {F G : Fn} (h : Pe n F) (h' : Pe n G) : Pe n (cmp F G) :=
  ⟨fun i hi => h'.lt _ (h.lt i hi), fun i j hi hj e => h.inj i j hi hj (h'.inj _ _ (h.lt i hi) (h.lt j hj) e), fun i hi => by
    show G (F i) = i
    rw [h.out i hi, h'.out i hi]⟩
theorem Pe.isP {n : Nat} {F : Fn} (h : Pe n F) : IsP F n := ⟨h.lt, h.inj⟩
theorem Pe.itr {n : Nat} {F : Fn} (h : Pe n F) (k : Nat) : Pe n (itr F k) :=
  ⟨fun i hi => itr_lt h.lt k i hi, fun i j hi hj e => itr_inj h.lt h.inj k i j hi hj e, fun i hi => by
    induction k with
    | zero => rfl
    | succ k ih => show F (Go.Proofs.YtkmkcbkfakoomaaDoor.itr F k i) = i; rw [ih, h.out i hi]⟩
def iv (n : Nat) (F : Fn) : Fn := itr F (orderOf (tabN n F) - 1)
theorem Pe.iv {n : Nat} {F : Fn} (h : Pe n F) : Pe n (iv n F) := h.itr _
inductive Gm (S : Fn → Prop) : Fn → Prop
  | one : Gm S id
  | mul {F s : Fn} (h : Gm S F) (hs : S s) : Gm S (cmp F s)
theorem Gm.gen {S : Fn → Prop} {s : Fn} (h : S s) : Gm S s := Gm.one.mul h
theorem Gm.app {S : Fn → Prop} {F G : Fn} (h : Gm S F) (h' : Gm S G) : Gm S (cmp F G) := by
  induction h' with
  | one => exact h
  | mul _ hs ih => exact ih.mul hs
theorem Gm.bind {S T : Fn → Prop} {F : Fn} (h : Gm S F) (hs : ∀ s, S s → Gm T s) : Gm T F := by
  induction h with
  | one => exact .one
  | mul _ h ih => exact ih.app (hs _ h)
theorem Gm.mono {S T : Fn → Prop} {F : Fn} (h : Gm S F) (hs : ∀ s, S s → T s) : Gm T F := h.bind fun s hh => .gen (hs s hh)
theorem Gm.itr {S : Fn → Prop} {F : Fn} (h : Gm S F) : ∀ k, Gm S (itr F k)
  | 0 => .one
  | k + 1 => (Gm.itr h k).app h
theorem Gm.iv {S : Fn → Prop} {F : Fn} (n : Nat) (h : Gm S F) : Gm S (iv n F) := h.itr _
abbrev inS (S : Nat → List Fn) (i : Nat) : Fn → Prop := fun g => g ∈ S i
structure Lv (n : Nat) (R : Nat → List (Nat × Fn)) (S : Nat → List Fn) (i : Nat) : Prop where
  r : ∀ x u, (x, u) ∈ R i → Pe n u ∧ u i = x ∧ ∀ k, k < i → u k = k
  one : (i, id) ∈ R i
  nd : ((R i).map (·.1)).Nodup
  s : ∀ g ∈ S i, Pe n g ∧ ∀ k, k < i → g k = k
  rs : ∀ x u, (x, u) ∈ R i → Gm (inS S i) u
  ss : i + 1 < n → ∀ g ∈ S (i + 1), Gm (inS S i) g
def Cmp (n : Nat) (R : Nat → List (Nat × Fn)) (S : Nat → List Fn) (i : Nat) : Prop :=
  ∀ x u, (x, u) ∈ R i → ∀ g ∈ S i, ∃ w, ((cmp u g) i, w) ∈ R i ∧ Gm (inS S (i + 1)) (cmp (cmp u g) (iv n w))
structure Good (n : Nat) (R : Nat → List (Nat × Fn)) (S : Nat → List Fn) (i : Nat) : Prop where
  lv : ∀ j, i ≤ j → j < n → Lv n R S j
  cm : ∀ j, i ≤ j → j < n → Cmp n R S j
  top : ∀ j, n ≤ j → S j = []
theorem Good.up {n : Nat} {R : Nat → List (Nat × Fn)} {S : Nat → List Fn} {i j : Nat} (h : Good n R S i) (hj : i ≤ j) : Good n R S j :=
  ⟨fun k h1 h2 => h.lv k (by omega) h2, fun k h1 h2 => h.cm k (by omega) h2, h.top⟩
end Go.Proofs.YtkmkcbkfakoomaaDoor

/- Facts and contracts that the claim uses. No condition of its own. -/
set_option linter.unusedVariables false
set_option linter.unusedSimpArgs false
namespace Go.Proofs.YtkmkcbkfakoomaaDoor
def smaller (xs : List Int) (k j : Nat) : Nat := (((xs.drop (k + 1)).take j).filter (fun y => y < xs.getD k 0)).length
def rk (xs : List Int) : Nat → Nat
  | 0 => 0
  | k + 1 => rk xs k * (xs.length - k) + smaller xs k (xs.length - (k + 1))
def rank (xs : List Int) : Int := rk xs xs.length
end Go.Proofs.YtkmkcbkfakoomaaDoor
