/- Factors that are made tight; forms letter by letter. Plain facts: nothing of the program is here. -/
import Derived.Test.YtgjfpmjllpgadaaGGarsideEqualsBF
import Derived.Test.YtgjfpmjllpgadaaGGarsideEqualsBG
set_option linter.unusedVariables false
set_option linter.unusedSimpArgs false
namespace Go.Proofs.Ytgjfpmjllpgadaa

abbrev Fam := Nat → Nat → Nat
def lst (m : Nat) (G : Fam) : List (Nat → Nat) := (List.range m).map G
theorem lst_len (m : Nat) (G : Fam) : (lst m G).length = m := by simp [lst]
theorem lst_succ (m : Nat) (G : Fam) : lst (m + 1) G = lst m G ++ [G m] := by simp [lst, List.range_succ]
theorem lst_congr {m : Nat} {G H : Fam} (h : ∀ i, i < m → G i = H i) : lst m G = lst m H := List.map_congr_left (fun i hi => h i (List.mem_range.1 hi))
theorem lst_app (a b : Nat) (G : Fam) : lst (a + b) G = lst a G ++ lst b (fun i => G (a + i)) := by
  unfold lst
  rw [List.range_add, List.map_append, List.map_map]; rfl
theorem lst_all {m : Nat} {G : Fam} {P : (Nat → Nat) → Prop} (h : ∀ i, i < m → P (G i)) : ∀ f ∈ lst m G, P f := fun f hf => by
  obtain ⟨i, hi, rfl⟩ := List.mem_map.1 hf
  exact h i (List.mem_range.1 hi)
theorem lst_split {m i : Nat} (G : Fam) (h : i + 1 < m) : lst m G = lst i G ++ G i :: G (i + 1) :: lst (m - (i + 2)) (fun j => G (i + 2 + j)) := by
  obtain ⟨d, rfl⟩ : ∃ d, m = i + 2 + d := ⟨m - (i + 2), by omega⟩
  rw [lst_app, show i + 2 = i + 1 + 1 by omega, lst_succ, lst_succ]
  simp
/-- crossings go from a factor to the one before it -/
def CanMove (n : Nat) (a b : Nat → Nat) (c : Nat) : Prop := c + 1 < n ∧ b (c + 1) < b c ∧ ∃ x y, x < y ∧ y < n ∧ a x = c ∧ a y = c + 1
inductive TM (n : Nat) (a b : Nat → Nat) : (Nat → Nat) → (Nat → Nat) → Bool → Prop
  | refl : TM n a b a b false
  | snoc {a' b' : Nat → Nat} {mv : Bool} {c : Nat} : TM n a b a' b' mv → CanMove n a' b' c → TM n a b (vsw a' c) (psw b' c) true
def tgF (n : Nat) (a b : Nat → Nat) : Prop := ∀ c, ¬ CanMove n a b c
inductive LM (n m : Nat) (G0 : Fam) : Fam → Prop
  | refl : LM n m G0 G0
  | snoc {G : Fam} {i c : Nat} : LM n m G0 G → i + 1 < m → CanMove n (G i) (G (i + 1)) c → LM n m G0 (ovr (ovr G i (vsw (G i) c)) (i + 1) (psw (G (i + 1)) c))
theorem LM.trans {n m : Nat} {G0 G1 G2 : Fam} (h : LM n m G0 G1) (h' : LM n m G1 G2) : LM n m G0 G2 := by
  induction h' with
  | refl => exact h
  | snoc _ h2 h3 ih => exact ih.snoc h2 h3
theorem CanMove.isP {n c : Nat} {a b : Nat → Nat} (h : CanMove n a b c) (ha : IsP a n) (hb : IsP b n) : IsP (vsw a c) n ∧ IsP (psw b c) n := ⟨vsw_isP ha h.1, psw_isP hb h.1⟩
theorem LM.isP {n m : Nat} {G0 G : Fam} (h : LM n m G0 G) (h0 : ∀ i, i < m → IsP (G0 i) n) : ∀ i, i < m → IsP (G i) n := by
  induction h with
  | refl => exact h0
  | snoc _ h2 h3 ih =>
    rename_i G i c hh
    intro j hj
    obtain ⟨p1, p2⟩ := h3.isP (ih i (by omega)) (ih (i + 1) h2)
    by_cases e : j = i + 1
    · rw [e, ovr_same]; exact p2
    · rw [ovr_ne _ _ e]
      by_cases e2 : j = i
      · rw [e2, ovr_same]; exact p1
      · rw [ovr_ne _ _ e2]; exact ih j hj
theorem LM.we {n m : Nat} (hn : n ≤ 6) {G0 G : Fam} (k : Int) (h : LM n m G0 G) (h0 : ∀ i, i < m → IsP (G0 i) n) : WE n (fwd n k (lst m G0)) (fwd n k (lst m G)) := by
  induction h with
  | refl => exact WE.refl _
  | snoc h1 h2 h3 ih =>
    rename_i G i c
    refine ih.trans ?_
    have hP := h1.isP h0
    obtain ⟨x, y, g1, g2, g3, g4⟩ := h3.2.2
    have e1 := lst_split G h2
    have e2 := lst_split (ovr (ovr G i (vsw (G i) c)) (i + 1) (psw (G (i + 1)) c)) h2
    rw [ovr_same, ovr_ne _ _ (show i ≠ i + 1 by omega), ovr_same] at e2
    have e3 : lst i (ovr (ovr G i (vsw (G i) c)) (i + 1) (psw (G (i + 1)) c)) = lst i G := lst_congr (fun j hj => by rw [ovr_ne _ _ (by omega), ovr_ne _ _ (by omega)])
    have e4 : lst (m - (i + 2)) (fun j => ovr (ovr G i (vsw (G i) c)) (i + 1) (psw (G (i + 1)) c) (i + 2 + j)) = lst (m - (i + 2)) (fun j => G (i + 2 + j)) := lst_congr (fun j hj => by rw [ovr_ne _ _ (by omega), ovr_ne _ _ (by omega)])
    rw [e3, e4] at e2
    rw [e1, e2]
    exact fwd_move hn (lst_all (fun j hj => hP j (by omega))) (hP i (by omega)) (hP (i + 1) h2) (lst_all (fun j hj => hP _ (by omega))) h3.1 h3.2.1 g1 g2 g3 g4
theorem ovr_self {G : Fam} {i j : Nat} : ovr (ovr G i (G i)) j (G j) = G := by
  funext k
  by_cases e : k = j
  · rw [e, ovr_same]
  · rw [ovr_ne _ _ e]
    by_cases e2 : k = i
    · rw [e2, ovr_same]
    · rw [ovr_ne _ _ e2]
theorem ovr_twice {G : Fam} {i j : Nat} (hij : i ≠ j) (a b a' b' : Nat → Nat) : ovr (ovr (ovr (ovr G i a) j b) i a') j b' = ovr (ovr G i a') j b' := by
  funext k
  by_cases e : k = j
  · rw [e, ovr_same, ovr_same]
  · rw [ovr_ne _ _ e, ovr_ne _ _ e]
    by_cases e2 : k = i
    · rw [e2, ovr_same, ovr_same]
    · rw [ovr_ne _ _ e2, ovr_ne _ _ e2, ovr_ne _ _ e, ovr_ne _ _ e2]
theorem TM.lm {n m i : Nat} {G : Fam} {a' b' : Nat → Nat} {mv : Bool} (hi : i + 1 < m) (h : TM n (G i) (G (i + 1)) a' b' mv) : LM n m G (ovr (ovr G i a') (i + 1) b') := by
  induction h with
  | refl => rw [ovr_self]; exact .refl
  | snoc h1 h2 ih =>
    rename_i a b mv c
    have := ih.snoc (i := i) (c := c) hi (by rw [ovr_ne _ _ (show i ≠ i + 1 by omega), ovr_same, ovr_same]; exact h2)
    rw [ovr_ne _ _ (show i ≠ i + 1 by omega), ovr_same, ovr_same, ovr_twice (by omega)] at this
    exact this

/-! ### how often -/
def wsm (f : Nat → Nat) : Nat → Int
  | 0 => 0
  | n + 1 => wsm f n + (n : Int) * (f n : Int)
theorem wgt_tab (f : Nat → Nat) : ∀ n, wgt 0 (tabN n f) = wsm f n
  | 0 => rfl
  | n + 1 => by
    have : tabN (n + 1) f = tabN n f ++ [(f n : Int)] := by simp [tabN, List.range_succ]
    rw [this, wgt_app, wgt_tab f n]
    simp [wgt, wsm]
theorem wsm_at {f g : Nat → Nat} {u : Nat} {d : Int} (hu : (g u : Int) = f u + d) (h : ∀ j, j ≠ u → g j = f j) : ∀ n, wsm g n = wsm f n + (if u < n then d * (u : Int) else 0)
  | 0 => by simp [wsm]
  | n + 1 => by
    simp only [wsm]
    rw [wsm_at hu h n]
    by_cases e : n = u
    · subst e
      rw [hu, if_neg (by omega), if_pos (by omega), Int.mul_add, Int.mul_comm (n : Int) d]; omega
    · rw [h n e]
      by_cases c : u < n
      · rw [if_pos c, if_pos (by omega)]; omega
      · rw [if_neg c, if_neg (by omega)]; omega
theorem wsm_vsw {n c x y : Nat} {a : Nat → Nat} (h : IsP a n) (hxy : x < y) (hy : y < n) (hx1 : a x = c) (hy1 : a y = c + 1) : wsm (vsw a c) n = wsm a n + (x : Int) - (y : Int) := by
  have key : ∀ j, j < n → vsw a c j = ovr (ovr a x (c + 1)) y c j := fun j hj => by
    by_cases e : j = y
    · rw [e, ovr_same]; unfold vsw; rw [hy1, tau_at1]
    · rw [ovr_ne _ _ e]
      by_cases e2 : j = x
      · rw [e2, ovr_same]; unfold vsw; rw [hx1, tau_at]
      · rw [ovr_ne _ _ e2]
        unfold vsw
        refine tau_ot (fun h1 => e2 (h.inj j x hj (by omega) (by omega))) (fun h1 => e (h.inj j y hj hy (by omega)))
  have cong : ∀ m, m ≤ n → wsm (vsw a c) m = wsm (ovr (ovr a x (c + 1)) y c) m := by
    intro m
    induction m with
    | zero => intro _; rfl
    | succ m ih => intro hm; simp only [wsm]; rw [ih (by omega), key m (by omega)]
  rw [cong n (Nat.le_refl _)]
  have k1 := wsm_at (f := ovr a x (c + 1)) (g := ovr (ovr a x (c + 1)) y c) (u := y) (d := -1) (by rw [ovr_same, ovr_ne _ _ (by omega), hy1]; omega) (fun j hj => ovr_ne _ _ hj) n
  have k2 := wsm_at (f := a) (g := ovr a x (c + 1)) (u := x) (d := 1) (by rw [ovr_same, hx1]; omega) (fun j hj => ovr_ne _ _ hj) n
  rw [k1, k2, if_pos hy, if_pos (by omega)]
  omega
theorem mu_vsw {n c x y : Nat} {a : Nat → Nat} (hn : n ≤ 6) (h : IsP a n) (hxy : x < y) (hy : y < n) (hx1 : a x = c) (hy1 : a y = c + 1) : mu (tabN n a) < mu (tabN n (vsw a c)) := by
  have hv := vsw_isP h (v := c) (by rw [← hy1]; exact h.lt y hy)
  have e := wsm_vsw h hxy hy hx1 hy1
  have b1 := (isP_ent h hn)
  have b2 := (isP_ent hv hn)
  have c1 := wgt_bd _ 0 (by have := b1.len; omega) b1.bd
  have c2 := wgt_bd _ 0 (by have := b2.len; omega) b2.bd
  have l1 := b1.len
  have l2 := b2.len
  rw [wgt_tab] at c1 c2
  unfold mu
  rw [wgt_tab, wgt_tab]
  omega
/-- what grows with each crossing -/
def pot (n : Nat) : Nat → Fam → Nat
  | 0, _ => 0
  | m + 1, G => 152 * pot n m G + mu (tabN n (G m))
theorem pot_congr {n : Nat} : ∀ {m : Nat} {G H : Fam}, (∀ i, i < m → G i = H i) → pot n m G = pot n m H
  | 0, _, _, _ => rfl
  | m + 1, G, H, h => by
    simp only [pot]
    rw [pot_congr (fun i hi => h i (by omega)), h m (by omega)]
theorem pot_bd {n : Nat} (hn : n ≤ 6) : ∀ {m : Nat} {G : Fam}, (∀ i, i < m → IsP (G i) n) → pot n m G + 1 ≤ 152 ^ m
  | 0, _, _ => by simp [pot]
  | m + 1, G, h => by
    have ih := pot_bd hn (m := m) (G := G) (fun i hi => h i (by omega))
    have := (isP_ent (h m (by omega)) hn).mu
    simp only [pot]
    rw [Nat.pow_succ]
    omega
theorem pot_move {n : Nat} (hn : n ≤ 6) {i c : Nat} {G : Fam} (hc : CanMove n (G i) (G (i + 1)) c) : ∀ {m : Nat}, i + 1 < m → (∀ j, j < m → IsP (G j) n) → pot n m G < pot n m (ovr (ovr G i (vsw (G i) c)) (i + 1) (psw (G (i + 1)) c))
  | m + 1, hm, hP => by
    obtain ⟨x, y, g1, g2, g3, g4⟩ := hc.2.2
    simp only [pot]
    by_cases e : i + 1 = m
    · obtain ⟨d, rfl⟩ : ∃ d, m = d + 1 := ⟨m - 1, by omega⟩
      obtain rfl : i = d := by omega
      rw [ovr_same]
      simp only [pot]
      rw [ovr_ne _ _ (show i ≠ i + 1 by omega), ovr_same]
      have k1 := mu_vsw hn (hP i (by omega)) g1 g2 g3 g4
      have k2 := (isP_ent (hP (i + 1) (by omega)) hn).mu
      have e3 : pot n i (ovr (ovr G i (vsw (G i) c)) (i + 1) (psw (G (i + 1)) c)) = pot n i G := pot_congr (fun j hj => by rw [ovr_ne _ _ (by omega), ovr_ne _ _ (by omega)])
      rw [e3]
      omega
    · have ih := pot_move hn hc (m := m) (by omega) (fun j hj => hP j (by omega))
      rw [ovr_ne _ _ (show m ≠ i + 1 by omega), ovr_ne _ _ (show m ≠ i by omega)]
      omega
theorem LM.pot {n m : Nat} (hn : n ≤ 6) {G0 G : Fam} (h : LM n m G0 G) (h0 : ∀ i, i < m → IsP (G0 i) n) : Go.Proofs.Ytgjfpmjllpgadaa.pot n m G0 ≤ Go.Proofs.Ytgjfpmjllpgadaa.pot n m G := by
  induction h with
  | refl => exact Nat.le_refl _
  | snoc h1 h2 h3 ih => exact Nat.le_trans ih (Nat.le_of_lt (pot_move hn h3 h2 (h1.isP h0)))
theorem TM.isP {n : Nat} {a b a' b' : Nat → Nat} {mv : Bool} (h : TM n a b a' b' mv) (ha : IsP a n) (hb : IsP b n) : IsP a' n ∧ IsP b' n := by
  induction h with
  | refl => exact ⟨ha, hb⟩
  | snoc h1 h2 ih => exact h2.isP ih.1 ih.2
theorem TM.pot {n m i : Nat} (hn : n ≤ 6) {G : Fam} {a' b' : Nat → Nat} (hi : i + 1 < m) (h0 : ∀ i, i < m → IsP (G i) n) (h : TM n (G i) (G (i + 1)) a' b' true) : Go.Proofs.Ytgjfpmjllpgadaa.pot n m G < Go.Proofs.Ytgjfpmjllpgadaa.pot n m (ovr (ovr G i a') (i + 1) b') := by
  cases h with
  | snoc h1 h2 =>
    rename_i a b mv c
    have l := h1.lm hi
    have h3 := l.pot hn h0
    have := pot_move hn (i := i) (c := c) (G := ovr (ovr G i a) (i + 1) b) (m := m) (by rw [ovr_ne _ _ (show i ≠ i + 1 by omega), ovr_same, ovr_same]; exact h2) hi (l.isP h0)
    rw [ovr_ne _ _ (show i ≠ i + 1 by omega), ovr_same, ovr_same, ovr_twice (by omega)] at this
    omega
theorem TM.stay {n : Nat} {a b a' b' : Nat → Nat} (h : TM n a b a' b' false) : a' = a ∧ b' = b := by
  cases h with
  | refl => exact ⟨rfl, rfl⟩

/-! ### tight factors -/
def isTw (n : Nat) (f : Nat → Nat) : Prop := ∀ i, i < n → f i = hlf n i
def isOne (n : Nat) (f : Nat → Nat) : Prop := ∀ i, i < n → f i = i
theorem tight_one {n : Nat} {a b : Nat → Nat} (h : tgF n a b) (ha : isOne n a) (hb : IsP b n) : isOne n b :=
  inc_id hb (fun c hc hd => h c ⟨hc, hd, c, c + 1, by omega, hc, ha c (by omega), ha (c + 1) hc⟩)
theorem tight_tw {n : Nat} {a b : Nat → Nat} (h : tgF n a b) (ha : IsP a n) (hb : isTw n b) : isTw n a := by
  have hex : ∀ v, ∃ u, v < n → u < n ∧ a u = v := fun v => by
    by_cases hv : v < n
    · obtain ⟨u, h1, h2⟩ := ha.pre hv
      exact ⟨u, fun _ => ⟨h1, h2⟩⟩
    · exact ⟨0, fun h => absurd h hv⟩
  obtain ⟨g, hg⟩ := Classical.axiomOfChoice hex
  have hdec : ∀ c, c + 1 < n → g (c + 1) < g c := fun c hc => by
    obtain ⟨p1, p2⟩ := hg c (by omega)
    obtain ⟨q1, q2⟩ := hg (c + 1) hc
    rcases Nat.lt_trichotomy (g c) (g (c + 1)) with hlt | he | hgt
    · exfalso
      refine h c ⟨hc, ?_, g c, g (c + 1), hlt, q1, p2, q2⟩
      rw [hb c (by omega), hb (c + 1) hc]; unfold hlf; omega
    · rw [he, q2] at p2; omega
    · exact hgt
  have hP : IsP (fun j => g (n - 1 - j)) n := ⟨fun j hj => (hg _ (by omega)).1, fun i j hi hj e => by
    have e : g (n - 1 - i) = g (n - 1 - j) := e
    have h1 := (hg (n - 1 - i) (by omega)).2
    have h2 := (hg (n - 1 - j) (by omega)).2
    rw [e, h2] at h1; omega⟩
  have hid := inc_id hP (fun i hi hlt => by
    have hlt : g (n - 1 - (i + 1)) < g (n - 1 - i) := hlt
    have := hdec (n - 1 - (i + 1)) (by omega)
    rw [show n - 1 - (i + 1) + 1 = n - 1 - i by omega] at this
    omega)
  intro i hi
  have h1 : g (n - 1 - i) = i := hid i hi
  have h2 := (hg (n - 1 - i) (by omega)).2
  rw [h1] at h2
  exact h2
/-- ALL PAIRS ARE TIGHT -/
def allT (n m : Nat) (G : Fam) : Prop := ∀ i, i + 1 < m → tgF n (G i) (G (i + 1))
theorem tw_first {n m : Nat} {G : Fam} (h : allT n m G) (hP : ∀ i, i < m → IsP (G i) n) : ∀ i, i < m → isTw n (G i) → ∀ j, j ≤ i → isTw n (G j)
  | 0, _, h1, j, hj => by obtain rfl : j = 0 := by omega
                          exact h1
  | i + 1, hi, h1, j, hj => by
    by_cases e : j = i + 1
    · rw [e]; exact h1
    · exact tw_first h hP i (by omega) (tight_tw (h i hi) (hP i (by omega)) h1) j (by omega)
theorem one_last {n m : Nat} {G : Fam} (h : allT n m G) (hP : ∀ i, i < m → IsP (G i) n) : ∀ d i, i + d < m → isOne n (G i) → isOne n (G (i + d))
  | 0, _, _, h1 => h1
  | d + 1, i, hi, h1 => tight_one (h (i + d) (by omega)) (one_last h hP d i (by omega) h1) (hP _ hi)
/-- what settling does -/
structure Stl (n : Nat) (k : Int) (m0 : Nat) (G0 : Fam) (k' : Int) (m' : Nat) (G' : Fam) : Prop where
  ex : ∃ (G : Fam) (s c : Nat), LM n m0 G0 G ∧ allT n m0 G ∧ s ≤ c ∧ c ≤ m0 ∧ (∀ i, i < s → isTw n (G i)) ∧ (s < m0 → ¬ isTw n (G s)) ∧ (∀ i, s ≤ i → i < c → ¬ isOne n (G i)) ∧ (∀ i, c ≤ i → i < m0 → isOne n (G i)) ∧ k' = k + s ∧ m' = c - s ∧ ∀ i, i < m' → G' i = G (s + i)
/-- a normal form -/
structure Nrm (n m : Nat) (G : Fam) : Prop where
  isP : ∀ i, i < m → IsP (G i) n
  tw : ∀ i, i < m → ¬ isTw n (G i)
  one : ∀ i, i < m → ¬ isOne n (G i)
  tight : allT n m G
theorem Stl.nrm {n m0 m' : Nat} {k k' : Int} {G0 G' : Fam} (h : Stl n k m0 G0 k' m' G') (h0 : ∀ i, i < m0 → IsP (G0 i) n) : Nrm n m' G' := by
  obtain ⟨G, s, c, h1, h2, h3, h4, h5, h6, h7, h8, h9, h10, h11⟩ := h.ex
  have hP := h1.isP h0
  refine ⟨fun i hi => by rw [h11 i hi]; exact hP _ (by omega), fun i hi ht => ?_, fun i hi => by rw [h11 i hi]; exact h7 _ (by omega) (by omega), fun i hi => by rw [h11 i (by omega), h11 (i + 1) hi]; exact h2 (s + i) (by omega)⟩
  rw [h11 i hi] at ht
  exact h6 (by omega) (tw_first h2 hP (s + i) (by omega) ht s (by omega))
theorem fwd_tws {n : Nat} (hn : n ≤ 6) {G : Fam} : ∀ (s : Nat) (k : Int) (m : Nat), (∀ i, i < s → isTw n (G i)) → (∀ i, i < s + m → IsP (G i) n) → WE n (fwd n k (lst (s + m) G)) (fwd n (k + s) (lst m (fun i => G (s + i))))
  | 0, k, m, _, _ => by
    rw [show (k + ((0 : Nat) : Int)) = k by omega, Nat.zero_add, lst_congr (G := fun i => G (0 + i)) (H := G) (fun i _ => by rw [Nat.zero_add])]
    exact WE.refl _
  | s + 1, k, m, h, hP => by
    have e : lst (s + 1 + m) G = G 0 :: lst (s + m) (fun i => G (1 + i)) := by
      rw [show s + 1 + m = 1 + (s + m) by omega, lst_app]; rfl
    rw [e]
    refine (fwd_twist hn (h 0 (by omega)) (lst_all (fun i hi => hP (1 + i) (by omega)))).trans ?_
    have ih := fwd_tws hn (G := fun i => G (1 + i)) s (k + 1) m (fun i hi => h (1 + i) (by omega)) (fun i hi => hP (1 + i) (by omega))
    rw [show k + 1 + (s : Int) = k + ((s + 1 : Nat) : Int) by omega] at ih
    refine ih.trans ?_
    rw [lst_congr (G := fun i => (fun i => G (1 + i)) (s + i)) (H := fun i => G (s + 1 + i)) (fun i _ => by show G (1 + (s + i)) = _; congr 1; omega)]
    exact WE.refl _
theorem Stl.we {n m0 m' : Nat} {k k' : Int} {G0 G' : Fam} (hn : n ≤ 6) (h : Stl n k m0 G0 k' m' G') (h0 : ∀ i, i < m0 → IsP (G0 i) n) : WE n (fwd n k (lst m0 G0)) (fwd n k' (lst m' G')) := by
  obtain ⟨G, s, c, h1, h2, h3, h4, h5, h6, h7, h8, h9, h10, h11⟩ := h.ex
  have hP := h1.isP h0
  refine (h1.we hn k h0).trans ?_
  have k1 := fwd_tws hn s k (m0 - s) h5 (fun i hi => hP i (by omega))
  rw [show s + (m0 - s) = m0 by omega, ← h9] at k1
  refine k1.trans ?_
  have e1 : lst (m0 - s) (fun i => G (s + i)) = lst m' G' ++ lst (m0 - c) (fun i => G (c + i)) := by
    rw [show m0 - s = m' + (m0 - c) by omega, lst_app]
    congr 1
    · exact lst_congr (fun i hi => (h11 i hi).symm)
    · exact lst_congr (fun i hi => by show G (s + (m' + i)) = _; congr 1; omega)
  rw [e1]
  have e2 : fwd n k' (lst m' G' ++ lst (m0 - c) (fun i => G (c + i))) = fwd n k' (lst m' G') := by
    unfold fwd
    rw [List.flatMap_append]
    have : (lst (m0 - c) (fun i => G (c + i))).flatMap (spw n) = [] := by
      rw [List.flatMap_eq_nil_iff]
      exact lst_all (P := fun f => spw n f = []) (fun i hi => by rw [← spw_id hn]; exact spw_congr (h8 (c + i) (by omega) (by omega)))
    rw [this, List.append_nil]
  rw [e2]
  exact WE.refl _
theorem Stl.bd {n m0 m' : Nat} {k k' : Int} {G0 G' : Fam} (h : Stl n k m0 G0 k' m' G') : k ≤ k' ∧ k' + m' ≤ k + m0 := by
  obtain ⟨G, s, c, h1, h2, h3, h4, h5, h6, h7, h8, h9, h10, h11⟩ := h.ex
  omega
/-- the factors after a letter, before they are settled -/
def addG (n m : Nat) (G : Fam) (x : Int) : Fam := if 0 < x then ovr G m (vsw id (x.natAbs - 1)) else ovr (fun i => trn n (G i)) m (vsw (hlf n) (x.natAbs - 1))
/-- THE FORM OF A WORD, letter by letter -/
inductive St (n : Nat) : List Int → Int → Nat → Fam → Prop
  | nil (G : Fam) : St n [] 0 0 G
  | snoc {w : List Int} {k k' : Int} {m m' : Nat} {G G' : Fam} {x : Int} : St n w k m G → 1 ≤ x.natAbs → x.natAbs < n → Stl n (if 0 < x then k else k - 1) (m + 1) (addG n m G x) k' m' G' → St n (w ++ [x]) k' m' G'
theorem addG_isP {n m : Nat} {G : Fam} {x : Int} (h : ∀ i, i < m → IsP (G i) n) (hx : 1 ≤ x.natAbs) (hx2 : x.natAbs < n) : ∀ i, i < m + 1 → IsP (addG n m G x i) n := by
  intro i hi
  unfold addG
  by_cases c : 0 < x
  · rw [if_pos c]
    by_cases e : i = m
    · rw [e, ovr_same]; exact vsw_isP (id_isP n) (by omega)
    · rw [ovr_ne _ _ e]; exact h i (by omega)
  · rw [if_neg c]
    by_cases e : i = m
    · rw [e, ovr_same]; exact vsw_isP (hlf_isP n) (by omega)
    · rw [ovr_ne _ _ e]; exact trn_isP (h i (by omega))
theorem addG_we {n m : Nat} (hn : n ≤ 6) {k : Int} {G : Fam} {x : Int} (h : ∀ i, i < m → IsP (G i) n) (hx : 1 ≤ x.natAbs) (hx2 : x.natAbs < n) : WE n (fwd n k (lst m G) ++ [x]) (fwd n (if 0 < x then k else k - 1) (lst (m + 1) (addG n m G x))) := by
  unfold addG
  by_cases c : 0 < x
  · rw [if_pos c, if_pos c, lst_succ, ovr_same, lst_congr (H := G) (fun i hi => ovr_ne _ _ (by omega)), fwd_pos hn (by omega)]
    rw [show (((x.natAbs - 1 : Nat) : Int) + 1) = x by omega]
    exact WE.refl _
  · rw [if_neg c, if_neg c, lst_succ, ovr_same]
    have k1 := fwd_neg hn (v := x.natAbs - 1) (k := k) (F := lst m G) (by omega) (lst_all (fun i hi => h i hi))
    rw [show -(((x.natAbs - 1 : Nat) : Int) + 1) = x by omega] at k1
    have e : (lst m G).map (trn n) = lst m (ovr (fun i => trn n (G i)) m (vsw (hlf n) (x.natAbs - 1))) := by
      unfold lst
      rw [List.map_map]
      exact List.map_congr_left (fun i hi => by have := List.mem_range.1 hi; rw [ovr_ne _ _ (by omega)]; rfl)
    rw [e] at k1
    exact k1
theorem St.all {n : Nat} (hn : n ≤ 6) {w : List Int} {k : Int} {m : Nat} {G : Fam} (h : St n w k m G) : brd n w ∧ Nrm n m G ∧ WE n w (fwd n k (lst m G)) ∧ -(w.length : Int) ≤ k ∧ k + m ≤ w.length := by
  induction h with
  | nil G => exact ⟨brd_nil, ⟨fun i hi => absurd hi (Nat.not_lt_zero _), fun i hi => absurd hi (Nat.not_lt_zero _), fun i hi => absurd hi (Nat.not_lt_zero _), fun i hi => absurd hi (by omega)⟩, WE.refl _, by simp, by simp⟩
  | snoc h1 hx hx2 hs ih =>
    rename_i w k k' m m' G G' x
    obtain ⟨b, nr, we, lo, hi⟩ := ih
    have hx3 : x ≠ 0 ∧ x < n ∧ -(n : Int) < x := by omega
    have hP := addG_isP nr.isP hx hx2
    have bd := hs.bd
    refine ⟨brd_app b (brd_one hx3), hs.nrm hP, ?_, ?_, ?_⟩
    · refine (WE.right [x] (fwd_brd hn (lst_all nr.isP)) we).trans ?_
      exact (addG_we hn nr.isP hx hx2).trans (hs.we hn hP)
    · rw [List.length_append]
      have : k - 1 ≤ (if 0 < x then k else k - 1) := by split <;> omega
      simp only [List.length_singleton]; omega
    · rw [List.length_append]
      have : (if 0 < x then k else k - 1) ≤ k := by split <;> omega
      simp only [List.length_singleton]; omega
end Go.Proofs.Ytgjfpmjllpgadaa
