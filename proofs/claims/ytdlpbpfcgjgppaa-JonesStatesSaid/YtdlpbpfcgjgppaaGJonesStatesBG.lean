/- Facts and contracts that the claim uses. No condition of its own. -/
import Derived.Test.YtdlpbpfcgjgppaaGJonesStatesBF
set_option linter.unusedVariables false
set_option linter.unusedSimpArgs false
namespace Go.Proofs.Ytdlpbpfcgjgppaa
noncomputable def ind (P : Prop) : Nat := @ite Nat P (Classical.propDecidable P) 1 0
theorem ind_pos {P : Prop} (h : P) : ind P = 1 := if_pos h
theorem ind_neg {P : Prop} (h : ¬ P) : ind P = 0 := if_neg h
theorem ind_congr {P Q : Prop} (h : P ↔ Q) : ind P = ind Q := by
  by_cases c : P
  · rw [ind_pos c, ind_pos (h.1 c)]
  · rw [ind_neg c, ind_neg (fun q => c (h.2 q))]
def sN (f : Nat → Nat) : Nat → Nat
  | 0 => 0
  | m + 1 => sN f m + f m
theorem sN_congr {f g : Nat → Nat} : ∀ {m : Nat}, (∀ j, j < m → f j = g j) → sN f m = sN g m
  | 0, _ => rfl
  | m + 1, h => by simp only [sN]; rw [sN_congr (fun j hj => h j (by omega)), h m (by omega)]
theorem sN_zero {f : Nat → Nat} {m : Nat} (h : ∀ j, j < m → f j = 0) : sN f m = 0 := by
  induction m with
  | zero => rfl
  | succ m ih => simp only [sN]; rw [ih (fun j hj => h j (by omega)), h m (by omega)]
theorem sN_add (f g : Nat → Nat) : ∀ m, sN (fun j => f j + g j) m = sN f m + sN g m
  | 0 => rfl
  | m + 1 => by simp only [sN]; rw [sN_add f g m]; omega
theorem sN_mul (c : Nat) (f : Nat → Nat) : ∀ m, sN (fun j => c * f j) m = c * sN f m
  | 0 => rfl
  | m + 1 => by simp only [sN]; rw [sN_mul c f m, Nat.mul_add]
theorem sN_swap (F : Nat → Nat → Nat) (K : Nat) : ∀ M, sN (fun p => sN (fun x => F p x) K) M = sN (fun x => sN (fun p => F p x) M) K
  | 0 => (sN_zero (fun _ _ => rfl)).symm
  | M + 1 => by
    show sN (fun p => sN (fun x => F p x) K) M + sN (fun x => F M x) K = sN (fun x => sN (fun p => F p x) M + F M x) K
    rw [sN_swap F K M, ← sN_add]
theorem sN_one {P : Nat → Prop} {x K : Nat} (hx : x < K) (h : P x) (hu : ∀ y, y < K → P y → y = x) : sN (fun y => ind (P y)) K = 1 := by
  induction K with
  | zero => omega
  | succ K ih =>
    simp only [sN]
    by_cases c : x = K
    · subst c
      rw [sN_zero (fun j hj => ind_neg (fun hp => by have := hu j (by omega) hp; omega)), ind_pos h]
    · rw [ih (by omega) (fun y hy hp => hu y (by omega) hp), ind_neg (fun hp => c (hu K (by omega) hp).symm)]
theorem sN_two {P : Nat → Prop} {x z K : Nat} (hx : x < K) (hz : z < K) (hne : x ≠ z) (h : P x) (h2 : P z) (hu : ∀ y, y < K → P y → y = x ∨ y = z) : sN (fun y => ind (P y)) K = 2 := by
  have e : ∀ y, ind (P y) = ind (P y ∧ y = x) + ind (P y ∧ y ≠ x) := fun y => by
    by_cases c : P y
    · by_cases c2 : y = x
      · rw [ind_pos c, ind_pos ⟨c, c2⟩, ind_neg (fun h => h.2 c2)]
      · rw [ind_pos c, ind_neg (fun h => c2 h.2), ind_pos ⟨c, c2⟩]
    · rw [ind_neg c, ind_neg (fun h => c h.1), ind_neg (fun h => c h.1)]
  rw [sN_congr (fun j _ => e j), sN_add, sN_one (x := x) hx ⟨h, rfl⟩ (fun y _ hy => hy.2), sN_one (x := z) hz ⟨h2, fun e => hne e.symm⟩ (fun y hy hp => (hu y hy hp.1).resolve_left hp.2)]
def fstP (r : Nat → Nat) (p : Nat) : Prop := ∀ j, j < p → r j ≠ r p
theorem fstP_ex (r : Nat → Nat) : ∀ x, ∃ p, p ≤ x ∧ fstP r p ∧ r p = r x := by
  intro x
  induction x using Nat.strongRecOn with
  | _ x ih =>
    by_cases h : ∃ j, j < x ∧ r j = r x
    · obtain ⟨j, h1, h2⟩ := h
      obtain ⟨p, h3, h4, h5⟩ := ih j h1
      exact ⟨p, by omega, h4, by rw [h5, h2]⟩
    · exact ⟨x, Nat.le_refl _, fun j hj e => h ⟨j, hj, e⟩, rfl⟩
theorem fstP_uniq {r : Nat → Nat} {p q : Nat} (hp : fstP r p) (hq : fstP r q) (e : r p = r q) : p = q := by
  rcases Nat.lt_trichotomy p q with h | h | h
  · exact absurd e (hq p h)
  · exact h
  · exact absurd e.symm (hp q h)
theorem by_parts {K : Nat} (r : Nat → Nat) (A : Nat → Prop) : sN (fun p => sN (fun x => ind (fstP r p ∧ A x ∧ r x = r p)) K) K = sN (fun x => ind (A x)) K := by
  rw [sN_swap]
  refine sN_congr (fun x hx => ?_)
  by_cases c : A x
  · rw [ind_pos c]
    obtain ⟨p, h1, h2, h3⟩ := fstP_ex r x
    exact sN_one (x := p) (by omega) ⟨h2, c, h3.symm⟩ (fun q _ hq => fstP_uniq hq.1 h2 (by rw [h3, hq.2.2]))
  · rw [ind_neg c]
    exact sN_zero (fun j _ => ind_neg (fun h => c h.2.1))
theorem roots_fst {K : Nat} (r : Nat → Nat) (hr : ∀ x, x < K → r x < K ∧ r (r x) = r x) : sN (fun p => ind (fstP r p)) K = sN (fun x => ind (r x = x)) K := by
  rw [← by_parts r (fun x => r x = x)]
  refine sN_congr (fun p hp => ?_)
  by_cases c : fstP r p
  · rw [ind_pos c]
    exact (sN_one (x := r p) (hr p hp).1 ⟨c, (hr p hp).2, (hr p hp).2⟩ (fun y _ hy => by rw [← hy.2.1, hy.2.2])).symm
  · rw [ind_neg c]
    exact (sN_zero (fun j _ => ind_neg (fun h => c h.1))).symm
noncomputable def stG (g : Lns) (D : Nat → Prop) : Lns := fun v => @ite _ (D v) (Classical.propDecidable _) [] (g v)
theorem stG_pos {g : Lns} {D : Nat → Prop} {v : Nat} (h : D v) : stG g D v = [] := if_pos h
theorem stG_neg {g : Lns} {D : Nat → Prop} {v : Nat} (h : ¬ D v) : stG g D v = g v := if_neg h
def Clo (g : Lns) (D : Nat → Prop) : Prop := ∀ v u, D v → Cg g v u → D u
theorem gr_st {n : Nat} {g : Lns} (h : Gr n g) {D : Nat → Prop} (hD : Clo g D) : Gr n (stG g D) := by
  refine ⟨fun p hp q hq => ?_, fun p hp => ?_, fun p q => ?_⟩
  · by_cases c : D p
    · rw [stG_pos c] at hq; cases hq
    · rw [stG_neg c] at hq; exact h.lt p hp q hq
  · by_cases c : D p
    · rw [stG_pos c]
    · rw [stG_neg c]; exact h.out p hp
  · have key : ∀ p q, D p → ¬ D q → (g q).count p = 0 := fun p q h1 h2 => by
      rw [List.count_eq_zero]
      intro hm
      exact h2 (hD p q h1 (.step .refl (h.mem hm)))
    by_cases c : D p
    · by_cases c2 : D q
      · rw [stG_pos c, stG_pos c2]; rfl
      · rw [stG_pos c, stG_neg c2, key p q c c2]; rfl
    · by_cases c2 : D q
      · rw [stG_neg c, stG_pos c2, key q p c2 c]; rfl
      · rw [stG_neg c, stG_neg c2]; exact h.sym p q
theorem st_sub {g : Lns} {D : Nat → Prop} {v z : Nat} (h : z ∈ stG g D v) : z ∈ g v := by
  by_cases c : D v
  · rw [stG_pos c] at h; cases h
  · rwa [stG_neg c] at h
theorem cg_st {n : Nat} {g : Lns} (hg : Gr n g) {D : Nat → Prop} (hD : Clo g D) {p v : Nat} (hp : ¬ D p) : Cg (stG g D) p v ↔ Cg g p v := by
  constructor
  · intro h
    induction h with
    | refl => exact .refl
    | step _ hz ih => exact ih.step (st_sub hz)
  · intro h
    induction h with
    | refl => exact .refl
    | step hy hz ih =>
      rename_i y z
      refine ih.step ?_
      rw [stG_neg (fun hd => hp (hD _ _ hd (hy.symm hg)))]
      exact hz
theorem st_len {g : Lns} {D : Nat → Prop} (h2 : ∀ v, (g v).length ≤ 2) : ∀ v, (stG g D v).length ≤ 2 := fun v => by
  by_cases c : D v
  · rw [stG_pos c]; simp
  · rw [stG_neg c]; exact h2 v
theorem st_next {n : Nat} {g g' : Lns} (hg : Gr n g) {D : Nat → Prop} (hD : Clo g D) {p : Nat} (hp : ¬ D p) (h1 : ∀ v, Cg (stG g D) p v → g' v = []) (h2 : ∀ v, ¬ Cg (stG g D) p v → g' v = stG g D v) : g' = stG g (fun v => D v ∨ Cg g p v) := by
  funext v
  by_cases c : Cg g p v
  · rw [h1 v ((cg_st hg hD hp).2 c), stG_pos (.inr c)]
  · rw [h2 v (fun h => c ((cg_st hg hD hp).1 h))]
    by_cases c2 : D v
    · rw [stG_pos c2, stG_pos (.inl c2)]
    · rw [stG_neg c2, stG_neg (fun h => h.elim c2 c)]
theorem take_path {n : Nat} {g g' : Lns} {p e : Nat} (hg : Gr n g) (h2 : ∀ v, (g v).length ≤ 2) {D : Nat → Prop} (hD : Clo g D) (hp : p < n) (hDp : ¬ D p) (h1 : (g p).length = 1) (h : Wg (stG g D) p g' e) :
    g' = stG g (fun v => D v ∨ Cg g p v) ∧ e < n ∧ e ≠ p ∧ (g e).length = 1 ∧ Cg g p e ∧ ∀ v, Cg g p v → (g v).length = 1 → v = p ∨ v = e := by
  obtain ⟨k1, k2, k3, k4, k5, k6, k7⟩ := h.path (gr_st hg hD) hp (st_len h2) (by rw [stG_neg hDp]; exact h1)
  have hc := fun {v : Nat} => cg_st (v := v) hg hD hDp
  have hnd : ∀ v, Cg g p v → ¬ D v := fun v hv hd => hDp (hD _ _ hd (hv.symm hg))
  refine ⟨st_next hg hD hDp k5 k6, k1, k2, ?_, hc.1 k4, fun v hv hl => k7 v (hc.2 hv) (by rw [stG_neg (hnd v hv)]; exact hl)⟩
  rw [stG_neg (hnd e (hc.1 k4))] at k3
  exact k3
theorem take_cycle {n : Nat} {g g' : Lns} {p e : Nat} (hg : Gr n g) (h2 : ∀ v, (g v).length ≤ 2) {D : Nat → Prop} (hD : Clo g D) (hp : p < n) (hDp : ¬ D p) (h1 : 0 < (g p).length) (hev : ∀ v, Cg g p v → (g v).length % 2 = 0) (h : Wg (stG g D) p g' e) :
    g' = stG g (fun v => D v ∨ Cg g p v) := by
  have hc := fun {v : Nat} => cg_st (v := v) hg hD hDp
  have hnd : ∀ v, Cg g p v → ¬ D v := fun v hv hd => hDp (hD _ _ hd (hv.symm hg))
  obtain ⟨k1, k2⟩ := h.cycle (gr_st hg hD) hp (st_len h2) (by rw [stG_neg hDp]; exact h1) (fun v hv => by rw [stG_neg (hnd v (hc.1 hv))]; exact hev v (hc.1 hv))
  exact st_next hg hD hDp k1 k2
theorem st_none (g : Lns) : stG g (fun _ => False) = g := by
  funext v
  exact stG_neg (fun h => h)
theorem st_congr {g : Lns} {D E : Nat → Prop} (h : ∀ v, D v ↔ E v) : stG g D = stG g E := by
  have : D = E := funext fun v => propext (h v)
  rw [this]
theorem partner {n : Nat} {g : Lns} (hg : Gr n g) (h2 : ∀ v, (g v).length ≤ 2) {p : Nat} (hp : p < n) (h1 : (g p).length = 1) : ∃ e, e < n ∧ e ≠ p ∧ (g e).length = 1 ∧ Cg g p e ∧ ∀ v, Cg g p v → (g v).length = 1 → v = p ∨ v = e := by
  obtain ⟨g', e, hw⟩ := wg_ex _ g p hg hp (Nat.le_refl _)
  obtain ⟨k1, k2, k3, k4, k5, k6, k7⟩ := hw.path hg hp h2 h1
  exact ⟨e, k1, k2, k3, k4, k7⟩
theorem ends_half {n : Nat} {g : Lns} (hg : Gr n g) (h2 : ∀ v, (g v).length ≤ 2) {r : Nat → Nat} (hr : ∀ x y, r x = r y ↔ Cg g x y) : 2 * sN (fun p => ind (fstP r p ∧ ∃ x, x < n ∧ (g x).length = 1 ∧ Cg g x p)) n = sN (fun x => ind ((g x).length = 1)) n := by
  rw [← by_parts r (fun x => (g x).length = 1), ← sN_mul]
  refine sN_congr (fun p hp => ?_)
  by_cases c : fstP r p ∧ ∃ x, x < n ∧ (g x).length = 1 ∧ Cg g x p
  · obtain ⟨c1, x, c2, c3, c4⟩ := c
    rw [ind_pos ⟨c1, x, c2, c3, c4⟩]
    obtain ⟨e, k1, k2, k3, k4, k5⟩ := partner hg h2 c2 c3
    refine (sN_two (x := x) (z := e) c2 k1 (fun h => k2 h.symm) ⟨c1, c3, (hr _ _).2 c4⟩ ⟨c1, k3, (hr _ _).2 ((k4.symm hg).trans c4)⟩ (fun y hy hh => ?_)).symm
    exact k5 y (c4.trans (((hr _ _).1 hh.2.2).symm hg)) hh.2.1
  · rw [ind_neg c]
    refine (sN_zero (fun x hx => ind_neg (fun hh => c ⟨hh.1, x, hx, hh.2.1, (hr _ _).1 hh.2.2⟩))).symm
theorem fst_split (r : Nat → Nat) (E : Nat → Prop) (m : Nat) : sN (fun p => ind (fstP r p)) m = sN (fun p => ind (fstP r p ∧ E p)) m + sN (fun p => ind (fstP r p ∧ ¬ E p)) m := by
  rw [← sN_add]
  refine sN_congr (fun p _ => ?_)
  by_cases c : fstP r p
  · by_cases c2 : E p
    · rw [ind_pos c, ind_pos ⟨c, c2⟩, ind_neg (fun h => h.2 c2)]
    · rw [ind_pos c, ind_neg (fun h => c2 h.2), ind_pos ⟨c, c2⟩]
  · rw [ind_neg c, ind_neg (fun h => c h.1), ind_neg (fun h => c h.1)]
end Go.Proofs.Ytdlpbpfcgjgppaa

/- Facts and contracts that the claim uses. No condition of its own. -/
set_option linter.unusedVariables false
set_option linter.unusedSimpArgs false
namespace Go.Proofs.Ytdlpbpfcgjgppaa
structure Trv {α β : Type} (lab : α → β) (A : α → Prop) (L : List α) : Prop where
  sub : ∀ x ∈ L, A x
  nd : (L.map lab).Nodup
  all : ∀ x, A x → ∃ y ∈ L, lab y = lab x
theorem Trv.len {α β : Type} {lab : α → β} {A : α → Prop} {L L' : List α} (h : Trv lab A L) (h' : Trv lab A L') : L.length = L'.length := by
  have := ((List.perm_ext_iff_of_nodup h.nd h'.nd).2 fun b => ⟨fun hb => ?_, fun hb => ?_⟩).length_eq
  · simpa using this
  · obtain ⟨x, hx, rfl⟩ := List.mem_map.1 hb
    obtain ⟨y, hy, e⟩ := h'.all x (h.sub x hx)
    exact List.mem_map.2 ⟨y, hy, e⟩
  · obtain ⟨x, hx, rfl⟩ := List.mem_map.1 hb
    obtain ⟨y, hy, e⟩ := h.all x (h'.sub x hx)
    exact List.mem_map.2 ⟨y, hy, e⟩
theorem Trv.map {α β γ δ : Type} {lab : α → β} {A : α → Prop} {L : List α} (h : Trv lab A L) {lab' : γ → δ} {A' : γ → Prop} (φ : α → γ) (h1 : ∀ x, A x → A' (φ x)) (h2 : ∀ x y, A x → A y → lab' (φ x) = lab' (φ y) → lab x = lab y)
    (h3 : ∀ x y, A x → A y → lab x = lab y → lab' (φ x) = lab' (φ y)) (h4 : ∀ z, A' z → ∃ x, A x ∧ lab' (φ x) = lab' z) : Trv lab' A' (L.map φ) := by
  refine ⟨fun z hz => ?_, ?_, fun z hz => ?_⟩
  · obtain ⟨x, hx, rfl⟩ := List.mem_map.1 hz
    exact h1 x (h.sub x hx)
  · have := h.nd
    unfold List.Nodup at *
    rw [List.pairwise_map] at this
    rw [List.map_map, List.pairwise_map]
    exact List.Pairwise.imp_of_mem (fun {a b} ha hb hab e => hab (h2 a b (h.sub a ha) (h.sub b hb) e)) this
  · obtain ⟨x, hx, e⟩ := h4 z hz
    obtain ⟨y, hy, e2⟩ := h.all x hx
    exact ⟨φ y, List.mem_map.2 ⟨y, hy, rfl⟩, by rw [h3 y x (h.sub y hy) hx e2, e]⟩
def rts (r : Nat → Nat) (N : Nat) : List Nat := (List.range N).filter fun x => r x = x
theorem rts_len (r : Nat → Nat) : ∀ N, (rts r N).length = sN (fun x => ind (r x = x)) N
  | 0 => rfl
  | N + 1 => by
    have ih := rts_len r N
    unfold rts at ih ⊢
    rw [List.range_succ, List.filter_append, List.length_append, ih]
    show _ = sN (fun x => ind (r x = x)) N + ind (r N = N)
    by_cases c : r N = N
    · rw [ind_pos c]; simp [c]
    · rw [ind_neg c]; simp [c]
theorem rts_trv {r : Nat → Nat} {N : Nat} (hr : ∀ x, x < N → r x < N ∧ r (r x) = r x) : Trv r (· < N) (rts r N) := by
  have hm : ∀ x, x ∈ rts r N ↔ x < N ∧ r x = x := fun x => by simp [rts]
  refine ⟨fun x hx => ((hm x).1 hx).1, ?_, fun x hx => ⟨r x, (hm _).2 (hr x hx), (hr x hx).2⟩⟩
  have : ((rts r N).map r) = rts r N := by
    conv => rhs; rw [← List.map_id (rts r N)]
    exact List.map_congr_left fun x hx => ((hm x).1 hx).2
  rw [this]
  exact List.Pairwise.filter _ List.nodup_range
theorem flt_split {α : Type} (p : α → Bool) : ∀ l : List α, (l.filter p).length + (l.filter fun x => !p x).length = l.length
  | [] => rfl
  | a :: l => by
    have ih := flt_split p l
    by_cases c : p a = true
    · simp [c]; omega
    · simp [c]; omega
theorem joinR_ok {N : Nat} {r : Nat → Nat} (h : ∀ x, x < N → r x < N ∧ r (r x) = r x) {a b : Nat} (ha : a < N) (hb : b < N) : ∀ x, x < N → joinR r a b x < N ∧ joinR r a b (joinR r a b x) = joinR r a b x := fun x hx => by
  have h1 := h x hx
  have h2 := h b hb
  unfold joinR
  by_cases c : r x = r a
  · simp only [if_pos c]
    refine ⟨h2.1, ?_⟩
    split
    · rfl
    · exact h2.2
  · simp only [if_neg c]
    refine ⟨h1.1, ?_⟩
    rw [h1.2, if_neg c]
theorem joinA_ok {N : Nat} : ∀ (ps : List (Nat × Nat)) (r : Nat → Nat), (∀ x, x < N → r x < N ∧ r (r x) = r x) → (∀ p ∈ ps, p.1 < N ∧ p.2 < N) → ∀ x, x < N → joinA r ps x < N ∧ joinA r ps (joinA r ps x) = joinA r ps x
  | [], r, h, _ => h
  | p :: ps, r, h, hp => joinA_ok ps _ (joinR_ok h (hp p (by simp)).1 (hp p (by simp)).2) (fun q hq => hp q (by simp [hq]))
theorem mt_half {n : Nat} {o : Nat → Nat} (h : Mt n o) : ((List.range (2 * n)).filter fun i => i < o i).length = n := by
  have e : ((List.range (2 * n)).filter fun i => i < o i).length = ((List.range (2 * n)).filter fun i => ¬ i < o i).length := by
    have hp : (((List.range (2 * n)).filter fun i => i < o i).map o).Perm ((List.range (2 * n)).filter fun i => ¬ i < o i) := by
      refine (List.perm_ext_iff_of_nodup ?_ (List.Pairwise.filter _ List.nodup_range)).2 fun x => ?_
      · refine List.pairwise_map.2 (List.Pairwise.imp_of_mem (fun {a b} ha hb hab e => hab ?_) (List.Pairwise.filter _ (List.nodup_range (n := 2 * n))))
        have ha := List.mem_range.1 (List.mem_filter.1 ha).1
        have hb := List.mem_range.1 (List.mem_filter.1 hb).1
        rw [← h.inv a ha, e, h.inv b hb]
      · simp only [List.mem_map, List.mem_filter, List.mem_range, decide_eq_true_eq, decide_not, Bool.not_eq_true', decide_eq_false_iff_not]
        constructor
        · rintro ⟨a, ⟨h1, h2⟩, rfl⟩
          exact ⟨h.lt a h1, by rw [h.inv a h1]; omega⟩
        · rintro ⟨h1, h2⟩
          exact ⟨o x, ⟨h.lt x h1, by rw [h.inv x h1]; have := h.ne x h1; omega⟩, h.inv x h1⟩
    rw [← hp.length_eq, List.length_map]
  have s := flt_split (fun i => decide (i < o i)) (List.range (2 * n))
  rw [List.length_range] at s
  have e3 : ((List.range (2 * n)).filter fun i => !decide (i < o i)) = (List.range (2 * n)).filter fun i => ¬ i < o i := List.filter_congr fun i _ => by rw [decide_not]
  rw [e3] at s
  omega
def tdeg (g : Lns) : Nat → Nat
  | 0 => 0
  | m + 1 => tdeg g m + (g m).length
theorem tdeg_cut {n : Nat} {g : Lns} (hg : Gr n g) {p q : Nat} {r : List Nat} (hp : p < n) (e : g p = q :: r) : tdeg (cutG g p q) n < tdeg g n := by
  have hl := cut_len hg hp e
  have key : ∀ m, tdeg (cutG g p q) m + (if p < m then 1 else 0) ≤ tdeg g m := fun m => by
    induction m with
    | zero => simp [tdeg]
    | succ m ih =>
      simp only [tdeg]
      have := hl m
      by_cases c : p = m
      · subst c
        rw [if_pos (.inl rfl)] at this
        rw [if_pos (by omega)]
        rw [if_neg (by omega)] at ih
        omega
      · by_cases c2 : p < m
        · rw [if_pos c2] at ih
          rw [if_pos (by omega)]
          omega
        · rw [if_neg c2] at ih
          rw [if_neg (by omega)]
          omega
  have := key n
  rw [if_pos hp] at this
  omega
end Go.Proofs.Ytdlpbpfcgjgppaa
