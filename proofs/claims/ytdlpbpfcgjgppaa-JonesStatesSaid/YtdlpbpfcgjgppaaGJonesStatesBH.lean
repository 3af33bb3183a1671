/- Facts and contracts that the claim uses. No condition of its own. -/
import Derived.Test.YtdlpbpfcgjgppaaGJonesStatesBG
set_option linter.unusedVariables false
set_option linter.unusedSimpArgs false
namespace Go.Proofs.Ytdlpbpfcgjgppaa
inductive Lp (n : Nat) : Nat → Lns → Nat → Prop
  | done {g : Lns} : Lp n n g 0
  | skip {p : Nat} {g : Lns} {c : Nat} : p < n → g p = [] → Lp n (p + 1) g c → Lp n p g c
  | take {p : Nat} {g g' : Lns} {e c : Nat} : p < n → g p ≠ [] → Wg g p g' e → Lp n (p + 1) g' c → Lp n p g (c + 1)
theorem lp_count {n : Nat} {g : Lns} (hg : Gr n g) (h2 : ∀ v, (g v).length ≤ 2) (hpos : ∀ v, v < n → g v ≠ []) {r : Nat → Nat} (hr : ∀ x y, r x = r y ↔ Cg g x y) {D : Nat → Prop} (hD : Clo g D) (hev : ∀ v, ¬ D v → (g v).length % 2 = 0) :
    ∀ (d p c : Nat), p + d = n → Lp n p (stG g (fun v => D v ∨ ∃ j, j < p ∧ Cg g j v)) c → c + sN (fun p => ind (fstP r p ∧ ¬ D p)) p = sN (fun p => ind (fstP r p ∧ ¬ D p)) n
  | 0, p, c, hp, h => by
    obtain rfl : p = n := by omega
    cases h with
    | done => omega
    | skip h _ _ => omega
    | take h _ _ _ => omega
  | d + 1, p, c, hp, h => by
    have hDp : ∀ p, Clo g (fun v => D v ∨ ∃ j, j < p ∧ Cg g j v) := fun p v u hv hc => by
      rcases hv with hv | ⟨j, hj, hv⟩
      · exact .inl (hD v u hv hc)
      · exact .inr ⟨j, hj, hv.trans hc⟩
    have nx : ∀ v, (D v ∨ ∃ j, j < p + 1 ∧ Cg g j v) ↔ ((D v ∨ ∃ j, j < p ∧ Cg g j v) ∨ Cg g p v) := fun v => by
      constructor
      · rintro (h | ⟨j, hj, h⟩)
        · exact .inl (.inl h)
        · by_cases e : j = p
          · rw [e] at h; exact .inr h
          · exact .inl (.inr ⟨j, by omega, h⟩)
      · rintro ((h | ⟨j, hj, h⟩) | h)
        · exact .inl h
        · exact .inr ⟨j, by omega, h⟩
        · exact .inr ⟨p, by omega, h⟩
    cases h with
    | done => omega
    | skip hlt he hn =>
      have hc : D p ∨ ∃ j, j < p ∧ Cg g j p := Classical.byContradiction (fun hc => by
        rw [stG_neg hc] at he
        exact hpos p hlt he)
      have e : stG g (fun v => D v ∨ ∃ j, j < p ∧ Cg g j v) = stG g (fun v => D v ∨ ∃ j, j < p + 1 ∧ Cg g j v) := st_congr (fun v => by
        rw [nx]
        exact ⟨.inl, fun h => h.elim id (fun h => hDp p _ _ hc h)⟩)
      rw [e] at hn
      have ih := lp_count hg h2 hpos hr hD hev d (p + 1) c (by omega) hn
      have h0 : ind (fstP r p ∧ ¬ D p) = 0 := ind_neg (fun ⟨a, b⟩ => by
        rcases hc with hc | ⟨j, hj, hc⟩
        · exact b hc
        · exact a j hj ((hr _ _).2 hc))
      simp only [sN] at ih
      omega
    | take hlt he hw hn =>
      rename_i g' e0 c0
      have hc : ¬ (D p ∨ ∃ j, j < p ∧ Cg g j p) := fun hc => he (stG_pos hc)
      have hev2 : ∀ v, Cg g p v → (g v).length % 2 = 0 := fun v hv => hev v (fun hd => hc (.inl (hD _ _ hd (hv.symm hg))))
      have e1 := take_cycle hg h2 (hDp p) hlt hc (by
        cases hgp : g p with
        | nil => exact absurd hgp (hpos p hlt)
        | cons a b => simp) hev2 hw
      rw [← st_congr nx] at e1
      rw [e1] at hn
      have ih := lp_count hg h2 hpos hr hD hev d (p + 1) c0 (by omega) hn
      have h0 : ind (fstP r p ∧ ¬ D p) = 1 := ind_pos ⟨fun j hj e => hc (.inr ⟨j, hj, (hr _ _).1 e⟩), fun h => hc (.inl h)⟩
      simp only [sN] at ih
      omega
def ptN (n p : Nat) : Nat := if n ≤ p then p - n else p
def outN (n i : Nat) : Nat := if i < n then i else n + i
def isO (n p : Nat) : Prop := p < n ∨ 2 * n ≤ p
theorem pt_out {n i : Nat} : ptN n (outN n i) = i := by
  unfold ptN outN
  by_cases c : i < n
  · rw [if_pos c, if_neg (by omega)]
  · rw [if_neg c, if_pos (by omega)]; omega
theorem out_o {n i : Nat} (h : i < 2 * n) : isO n (outN n i) ∧ outN n i < 3 * n := by
  unfold isO outN
  split <;> omega
theorem out_pt {n p : Nat} (h : isO n p) (hp : p < 3 * n) : outN n (ptN n p) = p ∧ ptN n p < 2 * n := by
  unfold isO at h
  unfold ptN outN
  by_cases c : n ≤ p
  · rw [if_pos c, if_neg (by omega)]; omega
  · rw [if_neg c, if_pos (by omega)]; omega
theorem pt_inj {n p q : Nat} (hp : isO n p) (hp2 : p < 3 * n) (hq : isO n q) (hq2 : q < 3 * n) (e : ptN n p = ptN n q) : p = q := by
  rw [← (out_pt hp hp2).1, e, (out_pt hq hq2).1]
def ov2 (f : Nat → Nat) (i v : Nat) : Nat → Nat := fun j => if j = i then v else f j
inductive Ph (n : Nat) : Nat → Lns → (Nat → Nat) → Lns → (Nat → Nat) → Prop
  | done {g : Lns} {o : Nat → Nat} : Ph n (3 * n) g o g o
  | skip {p : Nat} {g g' : Lns} {o o' : Nat → Nat} : p < 3 * n → ¬ (isO n p ∧ g p ≠ []) → Ph n (p + 1) g o g' o' → Ph n p g o g' o'
  | take {p e : Nat} {g g1 g' : Lns} {o o' : Nat → Nat} : p < 3 * n → isO n p → g p ≠ [] → Wg g p g1 e → Ph n (p + 1) g1 (ov2 (ov2 o (ptN n p) (ptN n e)) (ptN n e) (ptN n p)) g' o' → Ph n p g o g' o'
def DnO (n : Nat) (g : Lns) (p v : Nat) : Prop := ∃ x, x < p ∧ x < 3 * n ∧ isO n x ∧ Cg g x v
theorem ph_law {n : Nat} {g : Lns} (hg : Gr (3 * n) g) (h2 : ∀ v, (g v).length ≤ 2) (hl : ∀ v, v < 3 * n → ((g v).length = 1 ↔ isO n v)) :
    ∀ (d p : Nat) (o : Nat → Nat) (g' : Lns) (o' : Nat → Nat), p + d = 3 * n → (∀ x, x < 3 * n → isO n x → DnO n g p x → ∃ y, y < 3 * n ∧ isO n y ∧ y ≠ x ∧ Cg g x y ∧ o (ptN n x) = ptN n y) → Ph n p (stG g (DnO n g p)) o g' o' →
      g' = stG g (DnO n g (3 * n)) ∧ ∀ x, x < 3 * n → isO n x → ∃ y, y < 3 * n ∧ isO n y ∧ y ≠ x ∧ Cg g x y ∧ o' (ptN n x) = ptN n y
  | 0, p, o, g', o', hp, ho, h => by
    obtain rfl : p = 3 * n := by omega
    cases h with
    | done => exact ⟨rfl, fun x hx hx2 => ho x hx hx2 ⟨x, hx, hx, hx2, .refl⟩⟩
    | skip h _ _ => omega
    | take h _ _ _ _ => omega
  | d + 1, p, o, g', o', hp, ho, h => by
    have hDp : ∀ p, Clo g (DnO n g p) := fun p v u ⟨x, h1, h2, h3, h4⟩ hc => ⟨x, h1, h2, h3, h4.trans hc⟩
    cases h with
    | done => omega
    | skip hlt he hn =>
      have e : ∀ v, DnO n g p v ↔ DnO n g (p + 1) v := fun v => by
        constructor
        · rintro ⟨x, a1, a2, a3, a4⟩; exact ⟨x, by omega, a2, a3, a4⟩
        · rintro ⟨x, a1, a2, a3, a4⟩
          by_cases c : x = p
          · subst c
            have hd : DnO n g x x := Classical.byContradiction (fun hd => he ⟨a3, by
              rw [stG_neg hd]
              intro h0
              have := (hl x hlt).2 a3
              rw [h0] at this
              cases this⟩)
            exact hDp x _ _ hd a4
          · exact ⟨x, by omega, a2, a3, a4⟩
      rw [st_congr e] at hn
      exact ph_law hg h2 hl d (p + 1) o g' o' (by omega) (fun x hx hx2 hd => ho x hx hx2 ((e x).2 hd)) hn
    | take hlt hio he hw hn =>
      rename_i e0 g1
      have hc : ¬ DnO n g p p := fun hc => he (stG_pos hc)
      obtain ⟨k1, k2, k3, k4, k5, k6⟩ := take_path hg h2 (hDp p) hlt hc ((hl p hlt).2 hio) hw
      have hoe : isO n e0 := (hl e0 k2).1 k4
      have e : ∀ v, (DnO n g p v ∨ Cg g p v) ↔ DnO n g (p + 1) v := fun v => by
        constructor
        · rintro (⟨x, a1, a2, a3, a4⟩ | h)
          · exact ⟨x, by omega, a2, a3, a4⟩
          · exact ⟨p, by omega, hlt, hio, h⟩
        · rintro ⟨x, a1, a2, a3, a4⟩
          by_cases c : x = p
          · subst c; exact .inr a4
          · exact .inl ⟨x, by omega, a2, a3, a4⟩
      rw [st_congr e] at k1
      rw [k1] at hn
      refine ph_law hg h2 hl d (p + 1) _ g' o' (by omega) (fun x hx hx2 hd => ?_) hn
      have hpe : ptN n p ≠ ptN n e0 := fun h => k3 (pt_inj hio hlt hoe k2 h).symm
      rcases (e x).2 hd with hd | hd
      · obtain ⟨y, b1, b2, b3, b4, b5⟩ := ho x hx hx2 hd
        have c1 : x ≠ p := fun h => hc (h ▸ hd)
        have c2 : x ≠ e0 := fun h => hc (hDp p _ _ (h ▸ hd) (k5.symm hg))
        refine ⟨y, b1, b2, b3, b4, ?_⟩
        unfold ov2
        rw [if_neg (fun h => c2 (pt_inj hx2 hx hoe k2 h)), if_neg (fun h => c1 (pt_inj hx2 hx hio hlt h))]
        exact b5
      · rcases k6 x hd ((hl x hx).2 hx2) with rfl | rfl
        · exact ⟨e0, k2, hoe, k3, hd.trans k5, by unfold ov2; rw [if_neg hpe, if_pos rfl]⟩
        · exact ⟨p, hlt, hio, fun h => k3 h.symm, k5.symm hg, by unfold ov2; rw [if_pos rfl]⟩
def prsP (n : Nat) (a b : Nat → Nat) : List (Nat × Nat) := (List.range (2 * n)).map (fun i => (i, a i)) ++ (List.range (2 * n)).map (fun i => (n + i, n + b i))
theorem cn_cg {g : Lns} {n : Nat} (hg : Gr n g) {ps : List (Nat × Nat)} (h1 : ∀ x y, (x, y) ∈ ps → y ∈ g x) (h2 : ∀ x y, y ∈ g x → (x, y) ∈ ps) (x y : Nat) : Cn ps x y ↔ Cg g x y := by
  constructor
  · intro h
    induction h with
    | pair hp => exact .step .refl (h1 _ _ hp)
    | refl x => exact .refl
    | symm _ ih => exact ih.symm hg
    | trans _ _ ih1 ih2 => exact ih1.trans ih2
  · intro h
    induction h with
    | refl => exact .refl _
    | step _ hz ih => exact ih.trans (.pair (h2 _ _ hz))
theorem put_law {n : Nat} {a b : Nat → Nat} (ha : Mt n a) (hb : Mt n b) {r : Nat → Nat} (hrd : r = joinA id (prsP n a b)) (hrr : ∀ x, x < 3 * n → r x < 3 * n ∧ r (r x) = r x) {g' : Lns} {o' : Nat → Nat} {c : Nat} (h : Ph n 0 (gPut n a b (2 * n)) (fun _ => 0) g' o') (hc : Lp (3 * n) 0 g' c) :
    (∀ i, i < 2 * n → ∃ k, k < 2 * n ∧ o' i = k ∧ k ≠ i ∧ r (outN n i) = r (outN n k) ∧ ∀ k', k' < 2 * n → k' ≠ i → r (outN n i) = r (outN n k') → k' = k) ∧ sN (fun x => ind (r x = x)) (3 * n) = n + c := by
  have hg := gPut_gr ha hb
  have hlen := gPut_len ha hb
  have hperm := gPut_perm ha hb
  generalize gPut n a b (2 * n) = g at *
  have h2 : ∀ v, (g v).length ≤ 2 := fun v => by
    rw [hlen]
    repeat' split
    all_goals omega
  have hl : ∀ v, v < 3 * n → ((g v).length = 1 ↔ isO n v) := fun v hv => by
    rw [hlen]; unfold isO
    by_cases c1 : v < n
    · rw [if_pos c1]; omega
    · rw [if_neg c1]
      by_cases c2 : v < 2 * n
      · rw [if_pos c2]; omega
      · rw [if_neg c2, if_pos hv]; omega
  have hr : ∀ x y, r x = r y ↔ Cg g x y := fun x y => by
    rw [hrd, joinA_cn]
    refine cn_cg hg (fun x y hxy => ?_) (fun x y hxy => ?_) x y
    · rw [(hperm x).mem_iff]
      unfold prsP at hxy
      unfold gPl
      rcases List.mem_append.1 hxy with hxy | hxy
      · obtain ⟨i, hi, e⟩ := List.mem_map.1 hxy
        have hi := List.mem_range.1 hi
        cases e
        rw [if_pos hi]; simp
      · obtain ⟨i, hi, e⟩ := List.mem_map.1 hxy
        have hi := List.mem_range.1 hi
        cases e
        rw [if_pos (show n ≤ n + i ∧ n + i < 3 * n by omega), show n + i - n = i by omega]; simp
    · rw [(hperm x).mem_iff] at hxy
      unfold gPl at hxy
      unfold prsP
      rcases List.mem_append.1 hxy with hxy | hxy
      · split at hxy
        · simp only [List.mem_singleton] at hxy
          subst hxy
          exact List.mem_append_left _ (List.mem_map.2 ⟨x, List.mem_range.2 (by assumption), rfl⟩)
        · cases hxy
      · split at hxy
        · simp only [List.mem_singleton] at hxy
          subst hxy
          exact List.mem_append_right _ (List.mem_map.2 ⟨x - n, List.mem_range.2 (by omega), by rw [show n + (x - n) = x by omega]⟩)
        · cases hxy
  have e0 : stG g (DnO n g 0) = g := by
    rw [st_congr (E := fun _ => False) (fun v => ⟨fun ⟨x, hx, _⟩ => by omega, fun h => h.elim⟩)]
    exact st_none g
  rw [← e0] at h
  obtain ⟨q1, q2⟩ := ph_law hg h2 hl (3 * n) 0 _ g' o' (by omega) (fun x _ _ ⟨y, hy, _⟩ => by omega) h
  have hD : Clo g (DnO n g (3 * n)) := fun v u ⟨x, h1, h2, h3, h4⟩ hc => ⟨x, h1, h2, h3, h4.trans hc⟩
  refine ⟨fun i hi => ?_, ?_⟩
  · obtain ⟨o1, o2⟩ := out_o hi
    obtain ⟨y, y1, y2, y3, y4, y5⟩ := q2 _ o2 o1
    obtain ⟨p1, p2⟩ := out_pt y2 y1
    rw [pt_out] at y5
    refine ⟨ptN n y, p2, y5, fun e => y3 (by rw [← p1, e]), by rw [p1]; exact (hr _ _).2 y4, fun k' hk' hne hk2 => ?_⟩
    obtain ⟨u1, u2⟩ := out_o hk'
    obtain ⟨e, k1, k2, k3, k4, k5⟩ := partner hg h2 o2 ((hl _ o2).2 o1)
    have a1 := (k5 y y4 ((hl y y1).2 y2)).resolve_left y3
    have a2 := (k5 _ ((hr _ _).1 hk2) ((hl _ u2).2 u1)).resolve_left (fun h => hne (by rw [← pt_out (n := n) (i := k'), h, pt_out]))
    rw [← pt_out (n := n) (i := k'), a2, a1]
  · have e1 : stG g (DnO n g (3 * n)) = stG g (fun v => DnO n g (3 * n) v ∨ ∃ j, j < 0 ∧ Cg g j v) := st_congr (fun v => ⟨.inl, fun h => h.elim id (fun ⟨j, hj, _⟩ => by omega)⟩)
    rw [q1, e1] at hc
    have hcnt := lp_count hg h2 (fun v hv h0 => by
      have := hlen v
      rw [h0] at this
      simp only [List.length_nil] at this
      repeat' split at this
      all_goals omega) hr hD (fun v hv => by
      rw [hlen]
      by_cases c1 : v < 3 * n
      · have : ¬ isO n v := fun hO => hv ⟨v, c1, c1, hO, .refl⟩
        unfold isO at this
        rw [if_neg (by omega), if_pos (by omega)]
      · rw [if_neg (by omega), if_neg (by omega), if_neg c1]) (3 * n) 0 c (by omega) hc
    have hsp := fst_split r (DnO n g (3 * n)) (3 * n)
    have hends := ends_half hg h2 hr
    have hones : ∀ m, m ≤ 3 * n → sN (fun x => ind ((g x).length = 1)) m = if m ≤ n then m else if m ≤ 2 * n then n else m - n := fun m => by
      induction m with
      | zero => intro _; rw [if_pos (by omega)]; rfl
      | succ m ih =>
        intro hm
        simp only [sN]
        rw [ih (by omega), ind_congr (hl m (by omega))]
        unfold isO
        by_cases c1 : m < n
        · rw [ind_pos (.inl c1), if_pos (by omega), if_pos (by omega)]
        · by_cases c2 : m < 2 * n
          · rw [ind_neg (by omega)]
            by_cases c3 : m = n
            · subst c3; rw [if_pos (by omega), if_neg (by omega), if_pos (by omega)]; rfl
            · rw [if_neg (by omega), if_pos (by omega), if_neg (by omega), if_pos (by omega)]; rfl
          · rw [ind_pos (.inr (by omega))]
            by_cases c3 : m = 2 * n
            · subst c3
              by_cases c4 : n = 0
              · omega
              · rw [if_neg (by omega), if_pos (by omega), if_neg (by omega), if_neg (by omega)]; omega
            · rw [if_neg (by omega), if_neg (by omega), if_neg (by omega), if_neg (by omega)]; omega
    have h3 : sN (fun x => ind ((g x).length = 1)) (3 * n) = 2 * n := by
      rw [hones _ (Nat.le_refl _)]
      by_cases c0 : n = 0
      · subst c0; rfl
      · rw [if_neg (by omega), if_neg (by omega)]; omega
    have h4 : sN (fun p => ind (fstP r p ∧ ∃ x, x < 3 * n ∧ (g x).length = 1 ∧ Cg g x p)) (3 * n) = sN (fun p => ind (fstP r p ∧ DnO n g (3 * n) p)) (3 * n) := sN_congr (fun p hp => ind_congr (and_congr Iff.rfl ⟨fun ⟨x, x1, x2, x3⟩ => ⟨x, x1, x1, (hl x x1).1 x2, x3⟩, fun ⟨x, _, x1, x2, x3⟩ => ⟨x, x1, (hl x x1).2 x2, x3⟩⟩))
    rw [h3, h4] at hends
    have hrt := roots_fst r hrr
    have s0 : sN (fun p => ind (fstP r p ∧ ¬ DnO n g (3 * n) p)) 0 = 0 := rfl
    omega
def prsC (n : Nat) (d : Nat → Nat) : List (Nat × Nat) := (List.range (2 * n)).flatMap (fun i => [(i, d i), (i, oppN n i)])
theorem close_law {n : Nat} {d : Nat → Nat} (h : Mt n d) {r : Nat → Nat} (hrd : r = joinA id (prsC n d)) (hrr : ∀ x, x < 2 * n → r x < 2 * n ∧ r (r x) = r x) {c : Nat} (hc : Lp (2 * n) 0 (gCls n d (2 * n)) c) : sN (fun x => ind (r x = x)) (2 * n) = c := by
  obtain ⟨hg, hlen⟩ := gCls_gr h
  have hperm := gCls_perm h
  generalize gCls n d (2 * n) = g at *
  have h2 : ∀ v, (g v).length ≤ 2 := fun v => by rw [hlen]; split <;> omega
  have hr : ∀ x y, r x = r y ↔ Cg g x y := fun x y => by
    rw [hrd, joinA_cn]
    refine cn_cg hg (fun x y hxy => ?_) (fun x y hxy => ?_) x y
    · rw [(hperm x).mem_iff]
      obtain ⟨i, hi, e⟩ := List.mem_flatMap.1 hxy
      have hi := List.mem_range.1 hi
      unfold gCl
      simp only [List.mem_cons, List.not_mem_nil, or_false, Prod.mk.injEq] at e
      rcases e with ⟨rfl, rfl⟩ | ⟨rfl, rfl⟩
      · rw [if_pos hi]; simp
      · rw [if_pos hi]; simp
    · rw [(hperm x).mem_iff] at hxy
      unfold gCl at hxy
      split at hxy
      · refine List.mem_flatMap.2 ⟨x, List.mem_range.2 (by assumption), ?_⟩
        simp only [List.mem_cons, List.not_mem_nil, or_false] at hxy
        rcases hxy with rfl | rfl
        · simp
        · simp
      · cases hxy
  have e1 : g = stG g (fun v => (fun _ => False) v ∨ ∃ j, j < 0 ∧ Cg g j v) := by
    rw [st_congr (E := fun _ => False) (fun v => ⟨fun h => h.elim id (fun ⟨j, hj, _⟩ => by omega), fun h => h.elim⟩)]
    exact (st_none g).symm
  rw [e1] at hc
  have hcnt := lp_count hg h2 (fun v hv h0 => by
    have := hlen v
    rw [h0, if_pos hv] at this
    cases this) hr (D := fun _ => False) (fun _ _ h _ => h.elim) (fun v _ => by rw [hlen]; split <;> omega) (2 * n) 0 c (by omega) hc
  rw [← roots_fst r hrr]
  have h4 : sN (fun p => ind (fstP r p ∧ ¬ False)) (2 * n) = sN (fun p => ind (fstP r p)) (2 * n) := sN_congr (fun p _ => ind_congr ⟨fun h => h.1, fun h => ⟨h, id⟩⟩)
  have s0 : sN (fun p => ind (fstP r p ∧ ¬ False)) 0 = 0 := rfl
  omega
end Go.Proofs.Ytdlpbpfcgjgppaa
