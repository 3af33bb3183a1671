/- How long the images under braids become: permutations and their inverses, powers of the half twist. Plain facts: nothing of the program is here. -/
import Derived.Test.YtgjfpmjllpgadaaGGarsideFormsBO
set_option linter.unusedVariables false
set_option linter.unusedSimpArgs false
namespace Go.Proofs.Ytgjfpmjllpgadaa

theorem red_app2 (a b : List Int) : red (a ++ b) = red (red a ++ red b) := by rw [red_app_l, red_app_r]
theorem red_le (u : List Int) : (red u).length ≤ u.length := by rw [red_short]; exact short_len u
/-- no image of a generator is longer than B -/
def Lb (n : Int) (w : List Int) (B : Nat) : Prop := ∀ x, 1 ≤ x ∧ x ≤ n → (img w [x]).length ≤ B
theorem Lb.mono {n : Int} {w : List Int} {B C : Nat} (h : Lb n w B) (hBC : B ≤ C) : Lb n w C := fun x hx => Nat.le_trans (h x hx) hBC
theorem Lb.we {n : Int} {a b : List Int} {B : Nat} (h : Lb n a B) (he : WE n a b) : Lb n b B := fun x hx => by
  rw [← he [x] (inr_one hx) trivial]; exact h x hx
theorem flat_le {h : Int → List Int} {B : Nat} : ∀ {u : List Int}, (∀ z ∈ u, (h z).length ≤ B) → (u.flatMap h).length ≤ u.length * B
  | [], _ => by simp
  | z :: u, hz => by
    have h1 := hz z (by simp)
    have ih := flat_le (u := u) (fun y hy => hz y (by simp [hy]))
    rw [List.flatMap_cons, List.length_append, List.length_cons, Nat.succ_mul]
    omega
theorem flat_le2 {α : Type} {h : α → List Int} {B : Nat} : ∀ {u : List α}, (∀ z ∈ u, (h z).length ≤ B) → (u.flatMap h).length ≤ u.length * B
  | [], _ => by simp
  | z :: u, hz => by
    have h1 := hz z (by simp)
    have ih := flat_le2 (u := u) (fun y hy => hz y (by simp [hy]))
    rw [List.flatMap_cons, List.length_append, List.length_cons, Nat.succ_mul]
    omega
theorem Lb.app {n : Int} {a b : List Int} {A B : Nat} (ha : brd n a) (hb : brd n b) (h1 : Lb n a A) (h2 : Lb n b B) : Lb n (a ++ b) (A * B) := fun x hx => by
  rw [img_app, img_hom hb (inr_img ha (inr_one hx)) (rd_img (u := [x]) trivial)]
  refine Nat.le_trans (red_le _) (Nat.le_trans (flat_le (B := B) (fun z hz => ?_)) (Nat.mul_le_mul_right B (h1 x hx)))
  have hz2 := inr_img ha (inr_one hx) z hz
  unfold hom
  split
  · have : (invW (prg b (-z))).length = (prg b (-z)).length := by simp [invW]
    rw [this, ← img_one hb (by omega : 1 ≤ -z ∧ -z ≤ n)]
    exact h2 _ (by omega)
  · split
    · simp
    · rw [← img_one hb (by omega : 1 ≤ z ∧ z ≤ n)]
      exact h2 _ (by omega)
theorem Lb.nil {n : Int} : Lb n [] 1 := fun x _ => by simp [img]
/-- some letters more -/
theorem Lb.more {n : Int} {a c : List Int} {A : Nat} (ha : brd n a) (hc : brd n c) (h : Lb n a A) : Lb n (a ++ c) (2 ^ c.length * (A + 1) - 1) := fun x hx => by
  have h1 := img_len (w := c) (u := img a [x]) hc
  have h2 := h x hx
  rw [img_app]
  have h3 : 2 ^ c.length * ((img a [x]).length + 1) ≤ 2 ^ c.length * (A + 1) := Nat.mul_le_mul_left _ (by omega)
  omega
/-! ### inverse permutations -/
/-- the places of a list that hold less than v -/
def sel (f : Nat → Nat) (v : Nat) (l : List Nat) : List Int := (l.filter fun q => decide (f q < v)).map fun (q : Nat) => (q : Int) + 1
theorem sel_app (f : Nat → Nat) (v : Nat) (a b : List Nat) : sel f v (a ++ b) = sel f v a ++ sel f v b := by simp [sel]
theorem sel_cons (f : Nat → Nat) (v q : Nat) (l : List Nat) : sel f v (q :: l) = (if f q < v then [(q : Int) + 1] else []) ++ sel f v l := by
  unfold sel
  rw [List.filter_cons]
  by_cases h : f q < v <;> simp [h]
theorem sel_congr {f g : Nat → Nat} {v : Nat} {l : List Nat} (h : ∀ q ∈ l, f q = g q) : sel f v l = sel g v l := by
  unfold sel
  congr 1
  exact List.filter_congr (fun q hq => by rw [h q hq])
theorem sel_len (f : Nat → Nat) (v : Nat) (l : List Nat) : (sel f v l).length ≤ l.length := by
  unfold sel
  rw [List.length_map]
  exact List.length_filter_le _ _
def aft (n : Nat) (f : Nat → Nat) (p : Nat) : List Int := sel f (f p) (List.range' (p + 1) (n - 1 - p))
def cjW (n : Nat) (f : Nat → Nat) (p : Nat) : List Int := invW (aft n f p) ++ ([(p : Int) + 1] ++ aft n f p)
theorem cjW_len {n p : Nat} (f : Nat → Nat) (hp : p < n) : (cjW n f p).length ≤ 2 * n - 1 := by
  have : (aft n f p).length ≤ n - 1 - p := by
    have := sel_len f (f p) (List.range' (p + 1) (n - 1 - p))
    rwa [List.length_range'] at this
  unfold cjW
  have h : (invW (aft n f p)).length = (aft n f p).length := by simp [invW]
  rw [List.length_append, List.length_append, h, List.length_singleton]; omega
/-- what the inverse letter does -/
theorem sub_i {i : Nat} : sub (-((i : Int) + 1)) ((i : Int) + 1) = [(i : Int) + 2] := by
  unfold sub gen
  rw [if_neg (by omega), if_neg (by omega), if_pos (by omega)]
  congr 1
theorem sub_i1 {i : Nat} : sub (-((i : Int) + 1)) ((i : Int) + 2) = [-((i : Int) + 2), (i : Int) + 1, (i : Int) + 2] := by
  unfold sub gen
  rw [if_neg (by omega), if_neg (by omega), if_neg (by omega), if_pos (by omega)]
  have e1 : -(- -((i : Int) + 1) + 1) = -((i : Int) + 2) := by omega
  have e2 : - -((i : Int) + 1) = (i : Int) + 1 := by omega
  have e3 : - -((i : Int) + 1) + 1 = (i : Int) + 2 := by omega
  rw [e1, e3, e2]
theorem sub_o {i : Nat} {z : Int} (hz : 0 < z) (h1 : z ≠ (i : Int) + 1) (h2 : z ≠ (i : Int) + 2) : sub (-((i : Int) + 1)) z = [z] := by
  unfold sub gen
  rw [if_neg (by omega), if_neg (by omega), if_neg (by omega), if_neg (by omega)]
theorem flat_o {i : Nat} {f : Nat → Nat} {v : Nat} : ∀ {l : List Nat}, (∀ q ∈ l, q ≠ i ∧ q ≠ i + 1) → (sel f v l).flatMap (sub (-((i : Int) + 1))) = sel f v l
  | [], _ => rfl
  | q :: l, h => by
    have hq := h q (by simp)
    have ih := flat_o (f := f) (v := v) (l := l) (fun x hx => h x (by simp [hx]))
    rw [sel_cons, List.flatMap_append, ih]
    split
    · rw [List.flatMap_cons, List.flatMap_nil, List.append_nil, sub_o (by omega) (by omega) (by omega)]
    · rfl
theorem red_congr3 {a a' b b' c c' : List Int} (h1 : red a = red a') (h2 : red b = red b') (h3 : red c = red c') : red (a ++ (b ++ c)) = red (a' ++ (b' ++ c')) := by
  rw [red_app2 a, red_app2 b, h1, h2, h3, ← red_app2 b', ← red_app2 a']
theorem cj_congr {A A' : List Int} {z z' : List Int} (h1 : red A = red A') (h2 : red z = red z') : red (invW A ++ (z ++ A)) = red (invW A' ++ (z' ++ A')) :=
  red_congr3 (by rw [red_inv, red_inv, h1]) h2 h1
theorem cj_flat {i : Nat} (A z : List Int) : (invW A ++ (z ++ A)).flatMap (sub (-((i : Int) + 1))) = invW (A.flatMap (sub (-((i : Int) + 1)))) ++ (z.flatMap (sub (-((i : Int) + 1))) ++ A.flatMap (sub (-((i : Int) + 1)))) := by
  rw [List.flatMap_append, List.flatMap_append, invW_flat (fun z => sub_neg (by omega) z)]
theorem cj_step {n i p : Nat} {g : Nat → Nat} (hg : IsP g n) (hi : i + 1 < n) (hd : g i < g (i + 1)) (hp : p < n) : red ((cjW n g p).flatMap (sub (-((i : Int) + 1)))) = red (cjW n (psw g i) (tau (i + 1) p)) := by
  unfold cjW
  rw [cj_flat]
  rcases (show i + 1 < p ∨ p = i + 1 ∨ p = i ∨ p < i by omega) with h | h | h | h
  · -- behind the letter
    have e1 : aft n (psw g i) (tau (i + 1) p) = aft n g p := by
      rw [tau_ot (by omega) (by omega)]
      unfold aft
      rw [psw_ot (by omega) (by omega)]
      exact sel_congr (fun q hq => by rw [List.mem_range'_1] at hq; exact psw_ot (by omega) (by omega))
    have e2 : (aft n g p).flatMap (sub (-((i : Int) + 1))) = aft n g p := flat_o (fun q hq => by rw [List.mem_range'_1] at hq; omega)
    rw [e1, e2, tau_ot (by omega) (by omega), List.flatMap_cons, List.flatMap_nil, List.append_nil, sub_o (by omega) (by omega) (by omega)]
  · subst h
    have e2 : (aft n g (i + 1)).flatMap (sub (-((i : Int) + 1))) = aft n g (i + 1) := flat_o (fun q hq => by rw [List.mem_range'_1] at hq; omega)
    have e1 : aft n (psw g i) i = ((i : Int) + 2) :: aft n g (i + 1) := by
      unfold aft
      rw [show n - 1 - i = (n - 1 - (i + 1)) + 1 by omega, List.range'_succ, sel_cons, psw_at, psw_at1, if_pos hd]
      rw [sel_congr (g := g) (fun q hq => by rw [List.mem_range'_1] at hq; exact psw_ot (by omega) (by omega))]
      rw [show (((i + 1 : Nat) : Int) + 1) = (i : Int) + 2 by omega]; rfl
    rw [tau_at1, e1, e2, List.flatMap_cons, List.flatMap_nil, List.append_nil, show (((i + 1 : Nat) : Int) + 1) = (i : Int) + 2 by omega, sub_i1, invW_cons]
    simp
  · subst h
    have e2 : (aft n g p).flatMap (sub (-((p : Int) + 1))) = aft n g p := by
      unfold aft
      rw [show n - 1 - p = (n - 2 - p) + 1 by omega, List.range'_succ, sel_cons, if_neg (by omega), List.nil_append]
      exact flat_o (fun q hq => by rw [List.mem_range'_1] at hq; omega)
    have e1 : aft n (psw g p) (p + 1) = aft n g p := by
      unfold aft
      rw [psw_at1]
      conv => rhs; rw [show n - 1 - p = (n - 1 - (p + 1)) + 1 by omega, List.range'_succ, sel_cons, if_neg (by omega), List.nil_append]
      exact sel_congr (fun q hq => by rw [List.mem_range'_1] at hq; exact psw_ot (by omega) (by omega))
    rw [tau_at, e1, e2, List.flatMap_cons, List.flatMap_nil, List.append_nil, sub_i, show (((p + 1 : Nat) : Int) + 1) = (p : Int) + 2 by omega]
  · -- ahead of the letter
    have er : List.range' (p + 1) (n - 1 - p) = List.range' (p + 1) (i - (p + 1)) ++ (i :: (i + 1) :: List.range' (i + 2) (n - (i + 2))) := by
      rw [show n - 1 - p = (i - (p + 1)) + (n - i) by omega, ← List.range'_append_1, show p + 1 + (i - (p + 1)) = i by omega, show n - i = (n - (i + 2)) + 1 + 1 by omega, List.range'_succ, List.range'_succ]
    have eA : red ((aft n g p).flatMap (sub (-((i : Int) + 1)))) = red (aft n (psw g i) p) := by
      unfold aft
      rw [er, psw_ot (by omega) (by omega), sel_app, sel_app, sel_cons, sel_cons, sel_cons, sel_cons, psw_at, psw_at1, List.flatMap_append, List.flatMap_append, List.flatMap_append]
      rw [flat_o (l := List.range' (p + 1) (i - (p + 1))) (fun q hq => by rw [List.mem_range'_1] at hq; omega), flat_o (l := List.range' (i + 2) (n - (i + 2))) (fun q hq => by rw [List.mem_range'_1] at hq; omega)]
      rw [sel_congr (f := psw g i) (g := g) (l := List.range' (p + 1) (i - (p + 1))) (fun q hq => by rw [List.mem_range'_1] at hq; exact psw_ot (by omega) (by omega)), sel_congr (f := psw g i) (g := g) (l := List.range' (i + 2) (n - (i + 2))) (fun q hq => by rw [List.mem_range'_1] at hq; exact psw_ot (by omega) (by omega))]
      have e3 : (((i + 1 : Nat) : Int) + 1) = (i : Int) + 2 := by omega
      rw [e3]
      by_cases c2 : g (i + 1) < g p
      · have c1 : g i < g p := by omega
        simp only [c1, c2, if_true, List.flatMap_cons, List.flatMap_nil, List.append_nil]
        rw [sub_i, sub_i1]
        have e4 : red ([(i : Int) + 2] ++ [-((i : Int) + 2), (i : Int) + 1, (i : Int) + 2]) = red ([(i : Int) + 1] ++ [(i : Int) + 2]) := by
          have := fold_cancel [(i : Int) + 2] [(i : Int) + 1, (i : Int) + 2] (st := []) trivial
          exact this
        have k1 : ∀ P R : List Int, red (P ++ ([(i : Int) + 2] ++ ([-((i : Int) + 2), (i : Int) + 1, (i : Int) + 2] ++ R))) = red (P ++ ([(i : Int) + 1] ++ ([(i : Int) + 2] ++ R))) := fun P R => by
          have := red_congr3 (a := P) (a' := P) (b := [(i : Int) + 2] ++ [-((i : Int) + 2), (i : Int) + 1, (i : Int) + 2]) (b' := [(i : Int) + 1] ++ [(i : Int) + 2]) (c := R) (c' := R) rfl e4 rfl
          simpa using this
        exact k1 _ _
      · by_cases c1 : g i < g p
        · simp only [c1, c2, if_true, if_false, List.flatMap_cons, List.flatMap_nil, List.append_nil]
          rw [sub_i]
          simp
        · simp only [c1, c2, if_false, List.flatMap_nil]
    rw [tau_ot (by omega) (by omega), List.flatMap_cons, List.flatMap_nil, List.append_nil, sub_o (by omega) (by omega) (by omega)]
    exact cj_congr eA rfl
/-- THE IMAGES UNDER AN INVERSE PERMUTATION -/
theorem inv_img {n : Nat} (hn : n ≤ 6) : ∀ (N : Nat) (f : Nat → Nat), IsP f n → mu (tabN n f) ≤ N → ∀ p, p < n → img (invW (spw n f)) [((f p : Nat) : Int) + 1] = red (cjW n f p)
  | 0, f, h, hm => by have := (isP_ent h hn).mu; omega
  | N + 1, f, h, hm => by
    intro p hp
    cases hd : desc (tabN n f) with
    | none =>
      have hid : ∀ i, i < n → f i = i := inc_id h (fun i hi hlt => by obtain ⟨j, hj, _⟩ := desc_ex hi hlt; rw [hd] at hj; cases hj)
      rw [spw_congr (g := id) hid, spw_id hn, hid p hp]
      have : aft n f p = [] := by
        unfold aft sel
        rw [List.map_eq_nil_iff, List.filter_eq_nil_iff]
        intro q hq
        rw [List.mem_range'_1] at hq
        rw [hid p hp, hid q (by omega)]
        simp; omega
      unfold cjW
      rw [this]; rfl
    | some i =>
      obtain ⟨i1, i2⟩ := desc_tab hd
      have hg := psw_isP h i1
      have mg := mu_psw h hn i1 i2
      have ih := inv_img hn N (psw f i) hg (by omega) (tau (i + 1) p) (tau_lt (by omega) hp)
      have e1 : psw f i (tau (i + 1) p) = f p := by unfold psw; rw [tau_tau (n := n) (by omega)]
      rw [e1] at ih
      rw [spw_some h hn hd, invW_cons, img_app, ih]
      show stp (-((i : Int) + 1)) (red (cjW n (psw f i) (tau (i + 1) p))) = _
      unfold stp
      rw [← red_short, red_hom (fun z => sub_neg (by omega) z)]
      have hd2 : psw f i i < psw f i (i + 1) := by rw [psw_at, psw_at1]; exact i2
      rw [cj_step hg i1 hd2 (tau_lt (by omega) hp), tau_tau (n := n) (by omega), psw_back (n := n) i1]
theorem inv_lb {n : Nat} (hn : n ≤ 6) {f : Nat → Nat} (h : IsP f n) : Lb n (invW (spw n f)) 11 := fun x hx => by
  obtain ⟨p, hp, e⟩ := h.pre (y := (x - 1).toNat) (by omega)
  have k := inv_img hn _ f h (Nat.le_refl _) p hp
  rw [e, show (((x - 1).toNat : Nat) : Int) + 1 = x by omega] at k
  rw [k]
  have := cjW_len (n := n) f hp
  exact Nat.le_trans (red_le _) (by omega)
end Go.Proofs.Ytgjfpmjllpgadaa
