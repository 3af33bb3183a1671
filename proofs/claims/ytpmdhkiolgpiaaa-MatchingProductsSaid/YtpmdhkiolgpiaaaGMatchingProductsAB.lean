/- Graphs with two lines at a point at most: walks that take lines away. Plain facts: nothing of the program is here. -/
import Derived.Test.YtpmdhkiolgpiaaaGMatchingProductsAA
set_option linter.unusedVariables false
set_option linter.unusedSimpArgs false
namespace Go.Proofs.Ytpmdhkiolgpiaaa

/-- the lines of points: each line stands at both its ends -/
abbrev Lns := Nat → List Nat
structure Gr (n : Nat) (g : Lns) : Prop where
  lt : ∀ p, p < n → ∀ q ∈ g p, q < n ∧ q ≠ p
  out : ∀ p, n ≤ p → g p = []
  sym : ∀ p q, (g p).count q = (g q).count p
/-- the line from p to q is taken away -/
def cutG (g : Lns) (p q : Nat) : Lns := fun v => if v = p then (g p).tail else if v = q then (g q).erase p else g v
theorem cut_p (g : Lns) (p q : Nat) : cutG g p q p = (g p).tail := if_pos rfl
theorem cut_q (g : Lns) {p q : Nat} (h : q ≠ p) : cutG g p q q = (g q).erase p := by unfold cutG; rw [if_neg h, if_pos rfl]
theorem cut_o (g : Lns) {p q v : Nat} (h1 : v ≠ p) (h2 : v ≠ q) : cutG g p q v = g v := by unfold cutG; rw [if_neg h1, if_neg h2]
theorem Gr.mem {n : Nat} {g : Lns} (h : Gr n g) {p q : Nat} (hm : q ∈ g p) : p ∈ g q := by
  rw [← List.count_pos_iff] at hm ⊢
  rw [← h.sym]; exact hm
theorem Gr.cut {n : Nat} {g : Lns} (h : Gr n g) {p q : Nat} {r : List Nat} (hp : p < n) (e : g p = q :: r) : Gr n (cutG g p q) ∧ q < n ∧ q ≠ p ∧ p ∈ g q := by
  obtain ⟨hq, hne⟩ := h.lt p hp q (by rw [e]; simp)
  have hmem : p ∈ g q := h.mem (p := p) (q := q) (by rw [e]; simp)
  refine ⟨⟨fun v hv u hu => ?_, fun v hv => ?_, fun v u => ?_⟩, hq, hne, hmem⟩
  · by_cases c1 : v = p
    · subst c1
      rw [cut_p, e, List.tail_cons] at hu
      exact h.lt v hv u (by rw [e]; simp [hu])
    · by_cases c2 : v = q
      · subst c2
        rw [cut_q g hne] at hu
        exact h.lt v hv u (List.mem_of_mem_erase hu)
      · rw [cut_o g c1 c2] at hu
        exact h.lt v hv u hu
  · rw [cut_o g (by omega) (by omega)]; exact h.out v hv
  · have hs := h.sym
    have key : ∀ a b, (cutG g p q a).count b = (g a).count b - (if (a = p ∧ b = q) ∨ (a = q ∧ b = p) then 1 else 0) := fun a b => by
      by_cases c1 : a = p
      · subst c1
        rw [cut_p, e, List.tail_cons, List.count_cons]
        by_cases c : b = q
        · subst c; simp
        · rw [if_neg (by simpa using fun e => c e.symm), if_neg (by omega)]; omega
      · by_cases c2 : a = q
        · subst c2
          rw [cut_q g hne]
          by_cases c : b = p
          · subst c; rw [List.count_erase_self, if_pos (.inr ⟨rfl, rfl⟩)]
          · rw [List.count_erase_of_ne c, if_neg (by omega)]; omega
        · rw [cut_o g c1 c2, if_neg (by omega)]; omega
    rw [key, key, hs v u]
    by_cases c : (v = p ∧ u = q) ∨ (v = q ∧ u = p)
    · rw [if_pos c, if_pos (by omega)]
    · rw [if_neg c, if_neg (by omega)]
/-- the number of lines at a point after a cut -/
theorem cut_len {n : Nat} {g : Lns} (h : Gr n g) {p q : Nat} {r : List Nat} (hp : p < n) (e : g p = q :: r) (v : Nat) : (cutG g p q v).length + (if v = p ∨ v = q then 1 else 0) = (g v).length := by
  obtain ⟨_, hq, hne, hmem⟩ := h.cut hp e
  by_cases c1 : v = p
  · subst c1; rw [cut_p, e, if_pos (.inl rfl)]; rfl
  · by_cases c2 : v = q
    · subst c2
      rw [cut_q g hne, List.length_erase_of_mem hmem, if_pos (.inr rfl)]
      have : 0 < (g v).length := List.length_pos_of_mem hmem
      omega
    · rw [cut_o g c1 c2, if_neg (by omega)]; rfl
/-- joined by lines -/
inductive Cg (g : Lns) (x : Nat) : Nat → Prop
  | refl : Cg g x x
  | step {y z : Nat} : Cg g x y → z ∈ g y → Cg g x z
theorem Cg.trans {g : Lns} {x y z : Nat} (h : Cg g x y) (h' : Cg g y z) : Cg g x z := by
  induction h' with
  | refl => exact h
  | step _ hz ih => exact ih.step hz
theorem Cg.symm {n : Nat} {g : Lns} (hg : Gr n g) {x y : Nat} (h : Cg g x y) : Cg g y x := by
  induction h with
  | refl => exact .refl
  | step _ hz ih => exact (Cg.step .refl (hg.mem hz)).trans ih
theorem cut_sub {g : Lns} {p q v z : Nat} (h : z ∈ cutG g p q v) : z ∈ g v := by
  unfold cutG at h
  split at h
  · rename_i c; subst c; exact List.mem_of_mem_tail h
  · split at h
    · rename_i c; subst c; exact List.mem_of_mem_erase h
    · exact h
theorem Cg.of_cut {g : Lns} {p q x y : Nat} (h : Cg (cutG g p q) x y) : Cg g x y := by
  induction h with
  | refl => exact .refl
  | step _ hz ih => exact ih.step (cut_sub hz)
/-- a line that is not the one taken away stays -/
theorem cut_keep {g : Lns} {p q v z : Nat} {r : List Nat} (e : g p = q :: r) (hz : z ∈ g v) (h1 : ¬ (v = p ∧ z = q)) (h2 : ¬ (v = q ∧ z = p)) : z ∈ cutG g p q v := by
  unfold cutG
  split
  · rename_i c; subst c
    rw [e] at hz ⊢
    rcases List.mem_cons.1 hz with h | h
    · exact absurd ⟨rfl, h⟩ h1
    · exact h
  · split
    · rename_i c; subst c
      exact (List.mem_erase_of_ne (fun e => h2 ⟨rfl, e⟩)).2 hz
    · exact hz
/-- a walk that takes its lines away -/
inductive Wg : Lns → Nat → Lns → Nat → Prop
  | stop {g : Lns} {p : Nat} : g p = [] → Wg g p g p
  | step {g g' : Lns} {p q e : Nat} {r : List Nat} : g p = q :: r → Wg (cutG g p q) q g' e → Wg g p g' e
theorem Wg.base {n : Nat} {g g' : Lns} {p e : Nat} (h : Wg g p g' e) : Gr n g → p < n → Gr n g' ∧ e < n ∧ g' e = [] ∧ Cg g p e ∧ (∀ v, ((g' v).length + (g v).length + (if v = p then 1 else 0) + (if v = e then 1 else 0)) % 2 = 0) ∧ (∀ v, ¬ Cg g p v → g' v = g v) := by
  induction h with
  | stop h =>
    intro hg hp
    refine ⟨hg, hp, h, .refl, fun v => ?_, fun _ _ => rfl⟩
    split <;> omega
  | step e _ ih =>
    rename_i g g' p q e0 r h2
    intro hg hp
    obtain ⟨hg1, hq, hne, hmem⟩ := hg.cut hp e
    obtain ⟨i1, i2, i3, i4, i5, i6⟩ := ih hg1 hq
    have hpq : Cg g p q := .step .refl (by rw [e]; simp)
    refine ⟨i1, i2, i3, hpq.trans i4.of_cut, fun v => ?_, fun v hv => ?_⟩
    · have a1 := i5 v
      have a2 := cut_len hg hp e v
      by_cases c1 : v = p
      · rw [if_pos (.inl c1)] at a2
        rw [if_neg (by omega)] at a1
        rw [if_pos c1]; omega
      · by_cases c2 : v = q
        · rw [if_pos (.inr c2)] at a2
          rw [if_pos c2] at a1
          rw [if_neg c1]; omega
        · rw [if_neg (by omega)] at a2
          rw [if_neg c2] at a1
          rw [if_neg c1]; omega
    · have hvp : v ≠ p := fun e => hv (by rw [e]; exact .refl)
      have hvq : v ≠ q := fun e => hv (by rw [e]; exact hpq)
      rw [i6 v (fun h => hv (hpq.trans h.of_cut)), cut_o g hvp hvq]
/-- from a point with one line at most all lines of its part are taken -/
theorem Wg.clear {n : Nat} {g g' : Lns} {p e : Nat} (h : Wg g p g' e) : Gr n g → p < n → (∀ v, (g v).length ≤ 2) → (g p).length ≤ 1 → ∀ v, Cg g p v → g' v = [] := by
  induction h with
  | stop h =>
    intro _ _ _ _ v hv
    induction hv with
    | refl => exact h
    | step hy hz ih => exact absurd hz (by
        have : ∀ {g : Lns} {p y : Nat}, g p = [] → Cg g p y → y = p := fun {g p y} h hy => by
          induction hy with
          | refl => rfl
          | step _ hz ih => rw [ih, h] at hz; cases hz
        rw [this h hy, h]; simp)
  | step e hw ih =>
    rename_i g g' p q e0 r
    intro hg hp h2 h1 v hv
    obtain ⟨hg1, hq, hne, hmem⟩ := hg.cut hp e
    have hr : r = [] := by rw [e] at h1; simpa using h1
    subst hr
    have hl := cut_len hg hp e
    have ih := ih hg1 hq (fun v => by have := hl v; have := h2 v; omega) (by have := hl q; rw [if_pos (.inr rfl)] at this; have := h2 q; omega)
    have hc : ∀ {v}, Cg g p v → v = p ∨ Cg (cutG g p q) q v := fun {v} hv => by
      induction hv with
      | refl => exact .inl rfl
      | step hy hz ih =>
        rename_i u z
        by_cases cz : z = p
        · exact .inl cz
        rcases ih with rfl | ih
        · rw [e] at hz
          simp only [List.mem_singleton] at hz
          subst hz
          exact .inr .refl
        · refine .inr (ih.step (cut_keep e hz (fun c => ?_) (fun c => cz c.2)))
          obtain ⟨rfl, rfl⟩ := c
          have : ∀ {v}, Cg (cutG g u z) z v → v ≠ u := fun {v} hv => by
            induction hv with
            | refl => exact hne
            | step hy2 hz2 _ =>
              rename_i a b
              intro eb
              subst eb
              have := hg1.mem hz2
              rw [cut_p, e] at this
              cases this
          exact this ih rfl
    rcases hc hv with rfl | hv
    · have b := hw.base hg1 hq
      by_cases cc : Cg (cutG g v q) q v
      · exact ih v cc
      · rw [b.2.2.2.2.2 v cc, cut_p, e]; rfl
    · exact ih v hv
/-- FROM THE END OF A PATH: to its other end; the whole path is taken -/
theorem Wg.path {n : Nat} {g g' : Lns} {p e : Nat} (h : Wg g p g' e) (hg : Gr n g) (hp : p < n) (h2 : ∀ v, (g v).length ≤ 2) (h1 : (g p).length = 1) :
    e < n ∧ e ≠ p ∧ (g e).length = 1 ∧ Cg g p e ∧ (∀ v, Cg g p v → g' v = []) ∧ (∀ v, ¬ Cg g p v → g' v = g v) ∧ (∀ v, Cg g p v → (g v).length = 1 → v = p ∨ v = e) := by
  obtain ⟨b1, b2, b3, b4, b5, b6⟩ := h.base hg hp
  have hc := h.clear hg hp h2 (by omega)
  have he : e ≠ p := fun he => by
    have := b5 e
    rw [b3, if_pos he, if_pos rfl, he] at this
    simp only [List.length_nil] at this
    omega
  refine ⟨b2, he, ?_, b4, hc, b6, fun v hv hv1 => ?_⟩
  · have := b5 e
    have h3 := h2 e
    rw [b3, if_neg he, if_pos rfl] at this
    simp only [List.length_nil] at this
    omega
  · have := b5 v
    rw [hc v hv, hv1] at this
    simp only [List.length_nil] at this
    by_cases c1 : v = p
    · exact .inl c1
    · by_cases c2 : v = e
      · exact .inr c2
      · rw [if_neg c1, if_neg c2] at this; omega
/-- FROM A POINT OF A CYCLE: the whole cycle is taken -/
theorem Wg.cycle {n : Nat} {g g' : Lns} {p e : Nat} (h : Wg g p g' e) (hg : Gr n g) (hp : p < n) (h2 : ∀ v, (g v).length ≤ 2) (h1 : 0 < (g p).length) (hev : ∀ v, Cg g p v → (g v).length % 2 = 0) :
    (∀ v, Cg g p v → g' v = []) ∧ (∀ v, ¬ Cg g p v → g' v = g v) := by
  obtain ⟨b1, b2, b3, b4, b5, b6⟩ := h.base hg hp
  refine ⟨?_, b6⟩
  cases h with
  | stop h => rw [h] at h1; simp at h1
  | step e0 hw =>
    rename_i q r
    obtain ⟨hg1, hq, hne, hmem⟩ := hg.cut hp e0
    have hl := cut_len hg hp e0
    have hpq : Cg g p q := .step .refl (by rw [e0]; simp)
    have hq2 := hev q hpq
    have hq3 := h2 q
    have lq := hl q
    rw [if_pos (.inr rfl)] at lq
    have h2' : ∀ v, (cutG g p q v).length ≤ 2 := fun v => by have := hl v; have := h2 v; omega
    obtain ⟨c1, c2, c3, c4, c5, c6⟩ := hw.base hg1 hq
    have hc := hw.clear hg1 hq h2' (by omega)
    have hep : e = p := by
      refine Classical.byContradiction (fun hne2 => ?_)
      have h5 := c5 e
      have h6 := hev e (hpq.trans c4.of_cut)
      have h7 := hl e
      rw [c3, if_pos rfl] at h5
      simp only [List.length_nil] at h5
      by_cases c : e = q
      · rw [if_pos c] at h5
        rw [if_pos (.inr c)] at h7
        omega
      · rw [if_neg c] at h5
        rw [if_neg (by omega)] at h7
        omega
    rw [hep] at c4
    have key : ∀ {v}, Cg g p v → Cg (cutG g p q) q v := fun {v} hv => by
      induction hv with
      | refl => exact c4
      | step hy hz ih =>
        rename_i u z
        by_cases d1 : u = p ∧ z = q
        · rw [d1.2]; exact .refl
        · by_cases d2 : u = q ∧ z = p
          · rw [d2.2]; exact c4
          · exact ih.step (cut_keep e0 hz d1 d2)
    exact fun v hv => hc v (key hv)
/-- walks end -/
theorem wg_ex {n : Nat} : ∀ (N : Nat) (g : Lns) (p : Nat), Gr n g → p < n → ((List.range n).map fun v => (g v).length).sum ≤ N → ∃ g' e, Wg g p g' e := by
  intro N
  induction N with
  | zero =>
    intro g p hg hp hs
    have : (g p).length = 0 := by
      have h1 : (g p).length ∈ (List.range n).map fun v => (g v).length := List.mem_map.2 ⟨p, List.mem_range.2 hp, rfl⟩
      have key : ∀ l : List Nat, ∀ x ∈ l, x ≤ l.sum := fun l => by
        induction l with
        | nil => intro x hx; cases hx
        | cons y l ih =>
          intro x hx
          rw [List.sum_cons]
          rcases List.mem_cons.1 hx with rfl | hx
          · omega
          · have := ih x hx; omega
      have := key _ _ h1
      omega
    exact ⟨g, p, .stop (List.length_eq_zero_iff.1 this)⟩
  | succ N ih =>
    intro g p hg hp hs
    cases e : g p with
    | nil => exact ⟨g, p, .stop e⟩
    | cons q r =>
      obtain ⟨hg1, hq, hne, hmem⟩ := hg.cut hp e
      have hl := cut_len hg hp e
      have hsum : ∀ m, ((List.range m).map fun v => (cutG g p q v).length).sum + (if p < m then 1 else 0) ≤ ((List.range m).map fun v => (g v).length).sum := fun m => by
        induction m with
        | zero => simp
        | succ m ih2 =>
          rw [List.range_succ, List.map_append, List.map_append, List.sum_append, List.sum_append]
          simp only [List.map_cons, List.map_nil, List.sum_cons, List.sum_nil]
          have := hl m
          by_cases c : p = m
          · subst c
            rw [if_pos (.inl rfl)] at this
            rw [if_pos (by omega)]
            rw [if_neg (by omega)] at ih2
            omega
          · by_cases c2 : p < m
            · rw [if_pos c2] at ih2
              rw [if_pos (by omega)]
              omega
            · rw [if_neg c2] at ih2
              rw [if_neg (by omega)]
              omega
      have := hsum n
      rw [if_pos hp] at this
      obtain ⟨g', e2, hw⟩ := ih (cutG g p q) q hg1 hq (by omega)
      exact ⟨g', e2, .step e hw⟩
end Go.Proofs.Ytpmdhkiolgpiaaa
