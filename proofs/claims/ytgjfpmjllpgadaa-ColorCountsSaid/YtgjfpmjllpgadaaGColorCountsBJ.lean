/- Colourings of a braid word: the colours at the end depend linearly on those at the beginning. Plain facts: nothing of the program is here. -/
import Derived.Test.YtgjfpmjllpgadaaGColorCountsBI
set_option linter.unusedVariables false
set_option linter.unusedSimpArgs false
namespace Go.Proofs.Ytgjfpmjllpgadaa

/-- one letter -/
def stepC (q : Int) (c : List Int) (x : Int) : List Int :=
  if 0 < x then (c.set (x.natAbs - 1) ((2 * c.getD (x.natAbs - 1) 0 - c.getD x.natAbs 0) % q)).set x.natAbs (c.getD (x.natAbs - 1) 0)
  else (c.set (x.natAbs - 1) (c.getD x.natAbs 0)).set x.natAbs ((2 * c.getD x.natAbs 0 - c.getD (x.natAbs - 1) 0) % q)
def colW (q : Int) (w c : List Int) : List Int := w.foldl (stepC q) c
theorem stepC_len (q x : Int) (c : List Int) : (stepC q c x).length = c.length := by unfold stepC; split <;> simp
theorem colW_len (q : Int) : ∀ (w c : List Int), (colW q w c).length = c.length
  | [], _ => rfl
  | x :: w, c => by show (colW q w (stepC q c x)).length = _; rw [colW_len q w, stepC_len]
/-- a list of n colours -/
def Cols (n : Nat) (q : Int) (c : List Int) : Prop := c.length = n ∧ ∀ i, i < n → 0 ≤ c.getD i 0 ∧ c.getD i 0 < q
theorem getD_setI {c : List Int} {i j : Nat} {v : Int} (h : i < c.length) : (c.set i v).getD j 0 = if i = j then v else c.getD j 0 := by
  simp only [List.getD, List.getElem?_set]
  by_cases e : i = j
  · subst e; simp [h]
  · simp [e]
theorem stepC_get {q x : Int} {c : List Int} (h : x.natAbs < c.length) (h0 : 1 ≤ x.natAbs) (j : Nat) : (stepC q c x).getD j 0 =
    if x.natAbs = j then (if 0 < x then c.getD (x.natAbs - 1) 0 else (2 * c.getD x.natAbs 0 - c.getD (x.natAbs - 1) 0) % q)
    else if x.natAbs - 1 = j then (if 0 < x then (2 * c.getD (x.natAbs - 1) 0 - c.getD x.natAbs 0) % q else c.getD x.natAbs 0) else c.getD j 0 := by
  unfold stepC
  by_cases hx : 0 < x
  · rw [if_pos hx, getD_setI (by simpa using h), getD_setI (by omega), if_pos hx, if_pos hx]
  · rw [if_neg hx, getD_setI (by simpa using h), getD_setI (by omega), if_neg hx, if_neg hx]
theorem stepC_cols {n : Nat} {q x : Int} {c : List Int} (hq : 1 ≤ q) (hx : 1 ≤ x.natAbs ∧ x.natAbs < n) (hc : Cols n q c) : Cols n q (stepC q c x) := by
  obtain ⟨hl, hb⟩ := hc
  refine ⟨by rw [stepC_len, hl], fun i hi => ?_⟩
  rw [stepC_get (by omega) hx.1]
  have e1 := Int.emod_nonneg (2 * c.getD x.natAbs 0 - c.getD (x.natAbs - 1) 0) (show q ≠ 0 by omega)
  have e2 := Int.emod_lt_of_pos (2 * c.getD x.natAbs 0 - c.getD (x.natAbs - 1) 0) (show 0 < q by omega)
  have e3 := Int.emod_nonneg (2 * c.getD (x.natAbs - 1) 0 - c.getD x.natAbs 0) (show q ≠ 0 by omega)
  have e4 := Int.emod_lt_of_pos (2 * c.getD (x.natAbs - 1) 0 - c.getD x.natAbs 0) (show 0 < q by omega)
  have b1 := hb x.natAbs hx.2
  have b2 := hb (x.natAbs - 1) (by omega)
  have b3 := hb i hi
  split
  · split <;> omega
  · split
    · split <;> omega
    · exact b3
/-- a right word -/
def WordOk (n : Nat) (w : List Int) : Prop := ∀ x ∈ w, 1 ≤ x.natAbs ∧ x.natAbs < n
theorem colW_cols {n : Nat} {q : Int} (hq : 1 ≤ q) : ∀ (w c : List Int), WordOk n w → Cols n q c → Cols n q (colW q w c)
  | [], _, _, h => h
  | x :: w, c, hw, h => colW_cols hq w _ (fun y hy => hw y (by simp [hy])) (stepC_cols hq (hw x (by simp)) h)
theorem colW_snoc (q : Int) (w : List Int) (x : Int) (c : List Int) : colW q (w ++ [x]) c = stepC q (colW q w c) x := by
  unfold colW; rw [List.foldl_append]; rfl
/-- the k-th unit vector -/
def uniV (n : Nat) (q : Int) (k : Nat) : List Int := (List.replicate n 0).set k (1 % q)
theorem uniV_len (n : Nat) (q : Int) (k : Nat) : (uniV n q k).length = n := by simp [uniV]
theorem uniV_get {n : Nat} {q : Int} {k : Nat} (hk : k < n) (i : Nat) : (uniV n q k).getD i 0 = if k = i then 1 % q else 0 := by
  unfold uniV
  rw [getD_setI (by simpa using hk)]
  split
  · rfl
  · rename_i h
    simp only [List.getD, List.getElem?_replicate]
    split <;> rfl
theorem uniV_cols {n : Nat} {q : Int} {k : Nat} (hq : 1 ≤ q) (hk : k < n) : Cols n q (uniV n q k) := by
  refine ⟨uniV_len _ _ _, fun i hi => ?_⟩
  rw [uniV_get hk]
  have e1 := Int.emod_nonneg 1 (show q ≠ 0 by omega)
  have e2 := Int.emod_lt_of_pos 1 (show 0 < q by omega)
  split <;> omega
/-- what depends linearly on the colours, modulo q -/
def Lin (n : Nat) (q : Int) (f : List Int → Int) : Prop := ∀ v, Cols n q v → q ∣ f v - sm (List.range n) fun k => f (uniV n q k) * v.getD k 0
theorem sm_lin {α : Type} (a b : Int) (g h : α → Int) : ∀ l : List α, sm l (fun x => a * g x + b * h x) = a * sm l g + b * sm l h
  | [] => by simp [sm]
  | x :: l => by simp only [sm]; rw [sm_lin a b g h l, Int.mul_add, Int.mul_add]; omega
theorem sm_dvd {α : Type} {q : Int} {g h : α → Int} : ∀ {l : List α}, (∀ x ∈ l, q ∣ g x - h x) → q ∣ sm l g - sm l h
  | [], _ => by simp [sm]
  | x :: l, hh => by
    have h1 := hh x (by simp)
    have h2 := sm_dvd (l := l) (fun y hy => hh y (by simp [hy]))
    simp only [sm]
    have e : g x + sm l g - (h x + sm l h) = (g x - h x) + (sm l g - sm l h) := by omega
    rw [e]; exact Int.dvd_add h1 h2
theorem dvd_emod (q a : Int) : q ∣ a - a % q := ⟨a / q, by have := Int.emod_add_mul_ediv a q; omega⟩
theorem Lin.comb {n : Nat} {q : Int} {f g : List Int → Int} (hf : Lin n q f) (hg : Lin n q g) : Lin n q (fun v => (2 * f v - g v) % q) := by
  intro v hv
  have h1 := hf v hv
  have h2 := hg v hv
  have e1 := dvd_emod q (2 * f v - g v)
  have e2 : q ∣ sm (List.range n) (fun k => (2 * f (uniV n q k) - g (uniV n q k)) * v.getD k 0) - sm (List.range n) (fun k => (2 * f (uniV n q k) - g (uniV n q k)) % q * v.getD k 0) := sm_dvd (fun k _ => by
    rw [← Int.sub_mul]
    exact Int.dvd_mul_of_dvd_left (dvd_emod q _))
  have e3 : sm (List.range n) (fun k => (2 * f (uniV n q k) - g (uniV n q k)) * v.getD k 0) = 2 * sm (List.range n) (fun k => f (uniV n q k) * v.getD k 0) + (-1) * sm (List.range n) (fun k => g (uniV n q k) * v.getD k 0) := by
    rw [← sm_lin]
    congr 1
    funext k
    rw [Int.sub_mul, Int.mul_assoc]
    omega
  obtain ⟨x1, h1⟩ := h1
  obtain ⟨x2, h2⟩ := h2
  obtain ⟨x3, e1⟩ := e1
  obtain ⟨x4, e2⟩ := e2
  refine ⟨2 * x1 - x2 - x3 + x4, ?_⟩
  have : q * (2 * x1 - x2 - x3 + x4) = 2 * (q * x1) - q * x2 - q * x3 + q * x4 := by
    rw [Int.mul_add, Int.mul_sub, Int.mul_sub, Int.mul_left_comm]
  rw [this, ← h1, ← h2, ← e1, ← e2, e3]
  simp only
  omega
theorem sm_unit {n : Nat} (q : Int) (c : Nat → Int) (i : Nat) (hi : i < n) : sm (List.range n) (fun k => (if k = i then q else 0) * c k) = q * c i := by
  induction n with
  | zero => omega
  | succ n ih =>
    rw [List.range_succ, sm_append]
    by_cases h : i = n
    · subst h
      have z : ∀ m, m ≤ i → sm (List.range m) (fun k => (if k = i then q else 0) * c k) = 0 := fun m hm => by
        induction m with
        | zero => rfl
        | succ m ih2 =>
          rw [List.range_succ, sm_append, ih2 (by omega)]
          simp [sm, show m ≠ i by omega]
      rw [z i (Nat.le_refl _)]
      simp [sm]
    · rw [ih (by omega)]
      simp [sm, show n ≠ i by omega]
theorem Lin.coord {n : Nat} {q : Int} {i : Nat} (hi : i < n) : Lin n q (fun v => v.getD i 0) := by
  intro v _
  have e : sm (List.range n) (fun k => (uniV n q k).getD i 0 * v.getD k 0) = (1 % q) * v.getD i 0 := by
    rw [← sm_unit (1 % q) (fun k => v.getD k 0) i hi]
    have : ∀ l : List Nat, (∀ k ∈ l, k < n) → sm l (fun k => (uniV n q k).getD i 0 * v.getD k 0) = sm l (fun k => (if k = i then 1 % q else 0) * v.getD k 0) := by
      intro l
      induction l with
      | nil => intro _; rfl
      | cons k l ih =>
        intro h
        simp only [sm]
        rw [uniV_get (h k (by simp)), ih (fun k hk => h k (by simp [hk]))]
    exact this _ (fun k hk => List.mem_range.1 hk)
  show q ∣ v.getD i 0 - sm (List.range n) (fun k => (uniV n q k).getD i 0 * v.getD k 0)
  rw [e]
  have h : q ∣ (1 - 1 % q) * v.getD i 0 := Int.dvd_mul_of_dvd_left (dvd_emod q 1)
  rw [Int.sub_mul, Int.one_mul] at h
  exact h
theorem Lin.congr {n : Nat} {q : Int} {f g : List Int → Int} (hk : 1 ≤ q) (h : ∀ v, Cols n q v → f v = g v) (hf : Lin n q f) : Lin n q g := by
  intro v hv
  have e : sm (List.range n) (fun k => g (uniV n q k) * v.getD k 0) = sm (List.range n) (fun k => f (uniV n q k) * v.getD k 0) := by
    have : ∀ l : List Nat, (∀ k ∈ l, k < n) → sm l (fun k => g (uniV n q k) * v.getD k 0) = sm l (fun k => f (uniV n q k) * v.getD k 0) := by
      intro l
      induction l with
      | nil => intro _; rfl
      | cons k l ih =>
        intro h2
        simp only [sm]
        rw [h _ (uniV_cols hk (h2 k (by simp))), ih (fun k hk => h2 k (by simp [hk]))]
    exact this _ (fun k hk => List.mem_range.1 hk)
  rw [e, ← h v hv]
  exact hf v hv
/-- THE COLOURS AT THE END ARE LINEAR -/
theorem col_lin {n : Nat} {q : Int} (hq : 1 ≤ q) {w : List Int} (hw : WordOk n w) : ∀ i, i < n → Lin n q (fun v => (colW q w v).getD i 0) := by
  obtain ⟨u, rfl⟩ : ∃ u, w = u.reverse := ⟨w.reverse, by simp⟩
  induction u with
  | nil => intro i hi; exact Lin.coord hi
  | cons x u ih =>
    intro i hi
    rw [List.reverse_cons] at hw ⊢
    have hw1 : WordOk n u.reverse := fun y hy => hw y (by simp only [List.mem_append]; exact .inl hy)
    have hx := hw x (by simp)
    have ih := ih hw1
    have a1 := ih x.natAbs hx.2
    have a2 := ih (x.natAbs - 1) (by omega)
    have key : ∀ v, Cols n q v → (colW q (u.reverse ++ [x]) v).getD i 0 = (stepC q (colW q u.reverse v) x).getD i 0 := fun v _ => by rw [colW_snoc]
    refine Lin.congr hq (fun v hv => (key v hv).symm) ?_
    have key2 : ∀ v, Cols n q v → (stepC q (colW q u.reverse v) x).getD i 0 = _ := fun v hv => stepC_get (by rw [colW_len, hv.1]; exact hx.2) hx.1 i
    refine Lin.congr hq (fun v hv => (key2 v hv).symm) ?_
    by_cases h1 : x.natAbs = i
    · simp only [h1, if_true]
      rw [h1] at a1 a2
      by_cases h0 : 0 < x
      · simp only [h0, if_true]; exact a2
      · simp only [h0, if_false]; exact Lin.comb a1 a2
    · simp only [h1, if_false]
      by_cases h2 : x.natAbs - 1 = i
      · simp only [h2, if_true]
        rw [h2] at a2
        by_cases h0 : 0 < x
        · simp only [h0, if_true]; exact Lin.comb a2 a1
        · simp only [h0, if_false]; exact a1
      · simp only [h2, if_false]
        exact ih i hi
/-- the matrix of the colourings -/
def colM (n : Nat) (q : Int) (w : List Int) (r k : Nat) : Int := (colW q w (uniV n q k)).getD r 0 - (uniV n q k).getD r 0
theorem colM_dvd {n : Nat} {q : Int} (hq : 1 ≤ q) {w : List Int} (hw : WordOk n w) {v : List Int} (hv : Cols n q v) {r : Nat} (hr : r < n) : q ∣ (sm (List.range n) fun k => colM n q w r k * v.getD k 0) ↔ (colW q w v).getD r 0 = v.getD r 0 := by
  have h1 := col_lin hq hw r hr v hv
  have h2 := Lin.coord (q := q) hr v hv
  have e : (sm (List.range n) fun k => colM n q w r k * v.getD k 0) = 1 * (sm (List.range n) fun k => (colW q w (uniV n q k)).getD r 0 * v.getD k 0) + (-1) * (sm (List.range n) fun k => (uniV n q k).getD r 0 * v.getD k 0) := by
    rw [← sm_lin]
    congr 1
    funext k
    unfold colM
    rw [Int.sub_mul]; omega
  have b1 := (colW_cols hq w v hw hv).2 r hr
  have b2 := hv.2 r hr
  simp only at h1 h2
  rw [e]
  obtain ⟨x1, h1⟩ := h1
  obtain ⟨x2, h2⟩ := h2
  constructor
  · rintro ⟨y, hy⟩
    have : (colW q w v).getD r 0 - v.getD r 0 = q * (x1 - x2 + y) := by
      rw [Int.mul_add, Int.mul_sub, ← h1, ← h2, ← hy]; omega
    have hz : x1 - x2 + y = 0 := by
      rcases Int.lt_trichotomy (x1 - x2 + y) 0 with h | h | h
      · have : q * (x1 - x2 + y) ≤ q * (-1) := Int.mul_le_mul_of_nonneg_left (by omega) (by omega)
        omega
      · exact h
      · have : q * 1 ≤ q * (x1 - x2 + y) := Int.mul_le_mul_of_nonneg_left (by omega) (by omega)
        omega
    rw [hz, Int.mul_zero] at this
    omega
  · intro h
    refine ⟨x2 - x1, ?_⟩
    rw [Int.mul_sub, ← h1, ← h2, h]
    omega
end Go.Proofs.Ytgjfpmjllpgadaa
