/- Braids as maps of a free group: the letters from the first on, or from the last on. Plain facts: nothing of the program is here. -/
import Derived.Test.YtgjfpmjllpgadaaGGarsideFormsAA
set_option linter.unusedVariables false
set_option linter.unusedSimpArgs false
namespace Go.Proofs.Ytgjfpmjllpgadaa

/-! ### reducing inside of a word -/
theorem red_of_rd {l : List Int} (h : Rd l) : red l = l := by
  unfold red
  rw [foldl_rd l [] (.inr ⟨rfl, h⟩)]
  rfl
theorem rs_fold : ∀ (l : List Int) {st : List Int}, RS st → RS (l.foldl push st)
  | [], _, h => h
  | x :: l, _, h => rs_fold l (rs_push h x)
theorem fold_red {st : List Int} (h : RS st) (w : List Int) : (red w).foldl push st = w.foldl push st := by
  rw [red_short]; exact (foldl_short w h).symm
theorem red_app_l (a b : List Int) : red (red a ++ b) = red (a ++ b) := by
  unfold red
  rw [List.foldl_append, List.foldl_append]
  have := red_red a
  unfold red at this
  rw [this]
theorem red_app_r (a b : List Int) : red (a ++ red b) = red (a ++ b) := by
  show (a ++ red b).foldl push [] = (a ++ b).foldl push []
  rw [List.foldl_append, List.foldl_append]
  exact fold_red (rs_fold a (st := []) trivial) b
theorem invW_invW (a : List Int) : invW (invW a) = a := by
  simp [invW, List.map_reverse, Function.comp_def]
theorem invW_app (a b : List Int) : invW (a ++ b) = invW b ++ invW a := by simp [invW]
theorem invW_cons (x : Int) (a : List Int) : invW (x :: a) = invW a ++ [-x] := by simp [invW]
theorem fold_cancel : ∀ (a c : List Int) {st : List Int}, RS st → (a ++ (invW a ++ c)).foldl push st = c.foldl push st
  | [], c, st, h => rfl
  | x :: a, c, st, h => by
    rw [invW_cons, List.append_assoc, List.cons_append, List.foldl_cons]
    have := fold_cancel a ([-x] ++ c) (rs_push h x)
    rw [this]
    show c.foldl push (push (push st x) (-x)) = _
    rw [push_push h]
theorem fold_flat_red (f : Int → List Int) : ∀ (u : List Int) {st : List Int}, RS st → (u.flatMap f).foldl push st = (u.flatMap fun z => red (f z)).foldl push st
  | [], _, _ => rfl
  | z :: u, st, h => by
    rw [List.flatMap_cons, List.flatMap_cons, List.foldl_append, List.foldl_append, fold_red h (f z)]
    exact fold_flat_red f u (rs_fold _ h)
theorem red_flat_red (f : Int → List Int) (u : List Int) : red (u.flatMap f) = red (u.flatMap fun z => red (f z)) := fold_flat_red f u (st := []) trivial
theorem red_flat_congr {f g : Int → List Int} {u : List Int} (h : ∀ z ∈ u, red (f z) = red (g z)) : red (u.flatMap f) = red (u.flatMap g) := by
  rw [red_flat_red f, red_flat_red g]
  congr 1
  induction u with
  | nil => rfl
  | cons z u ih =>
    rw [List.flatMap_cons, List.flatMap_cons, h z (by simp), ih (fun y hy => h y (by simp [hy]))]
/-- a map that turns inverses into inverses may be carried out ahead of reducing -/
theorem fold_hom {h : Int → List Int} (hi : ∀ z, h (-z) = invW (h z)) : ∀ (U : List Int) {st : List Int}, RS st → (U.flatMap h).foldl push st = ((short U).flatMap h).foldl push st
  | [], _, _ => rfl
  | x :: U, st, hs => by
    have e : short (x :: U) = consR x (short U) := rfl
    have ih := fold_hom hi U (rs_fold (h x) hs)
    rw [List.flatMap_cons, List.foldl_append, ih, e]
    unfold consR
    split
    · rename_i c
      cases hU : short U with
      | nil => rw [hU] at c; simp at c
      | cons y s =>
        rw [hU] at c
        simp only [List.head?_cons, Option.some.injEq] at c
        subst c
        rw [List.tail_cons, List.flatMap_cons, ← List.foldl_append, hi x]
        exact fold_cancel _ _ hs
    · rw [List.flatMap_cons, List.foldl_append]
theorem red_hom {h : Int → List Int} (hi : ∀ z, h (-z) = invW (h z)) (U : List Int) : red ((red U).flatMap h) = red (U.flatMap h) := by
  rw [red_short U]
  exact (fold_hom hi U (st := []) trivial).symm
theorem invW_flat {h : Int → List Int} (hi : ∀ z, h (-z) = invW (h z)) : ∀ l : List Int, (invW l).flatMap h = invW (l.flatMap h)
  | [] => rfl
  | x :: l => by
    rw [invW_cons, List.flatMap_append, invW_flat hi l, List.flatMap_cons (x := x), invW_app]
    simp [hi]

/-! ### the letters of a braid -/
/-- a generator under a letter -/
def gen (y j : Int) : List Int :=
  if 0 < y then (if j = y then [y, y + 1, -y] else if j = y + 1 then [y] else [j]) else (if j = -y then [-y + 1] else if j = -y + 1 then [-(-y + 1), -y, -y + 1] else [j])
def sub (y z : Int) : List Int := if z < 0 then invW (gen y (-z)) else gen y z
def stp (y : Int) (u : List Int) : List Int := short (u.flatMap (sub y))
/-- the letters from the first one on -/
def img (w u : List Int) : List Int := w.foldl (fun u y => stp y u) u
/-- the letters from the last one on -/
def prg : List Int → Int → List Int
  | [], j => [j]
  | y :: w, j =>
    if 0 < y then (if j = y then red (prg w y ++ (prg w (y + 1) ++ invW (prg w y))) else if j = y + 1 then prg w y else prg w j)
    else (if j = -y then prg w (-y + 1) else if j = -y + 1 then red (invW (prg w (-y + 1)) ++ (prg w (-y) ++ prg w (-y + 1))) else prg w j)
def hom (o : Int → List Int) (z : Int) : List Int := if z < 0 then invW (o (-z)) else if z = 0 then [] else o z
/-- letters of n generators -/
def inr (n : Int) (u : List Int) : Prop := ∀ z ∈ u, z ≠ 0 ∧ -n ≤ z ∧ z ≤ n
/-- letters of braids of n strands -/
def brd (n : Int) (w : List Int) : Prop := ∀ y ∈ w, y ≠ 0 ∧ y < n ∧ -n < y

theorem hom_neg (o : Int → List Int) (z : Int) : hom o (-z) = invW (hom o z) := by
  unfold hom
  rcases (show z < 0 ∨ z = 0 ∨ 0 < z by omega) with h | h | h
  · rw [if_neg (by omega), if_neg (by omega), if_pos h, invW_invW]
  · subst h; simp [invW]
  · rw [if_pos (by omega), if_neg (by omega), if_neg (by omega), Int.neg_neg]
theorem sub_neg {y : Int} (hy : y ≠ 0) (z : Int) : sub y (-z) = invW (sub y z) := by
  unfold sub
  rcases (show z < 0 ∨ z = 0 ∨ 0 < z by omega) with h | h | h
  · rw [if_neg (by omega), if_pos h, invW_invW]
  · subst h
    simp only [Int.neg_zero, Int.lt_irrefl, if_false]
    unfold gen
    split
    · rw [if_neg (by omega), if_neg (by omega)]; simp [invW]
    · rw [if_neg (by omega), if_neg (by omega)]; simp [invW]
  · rw [if_pos (by omega), if_neg (by omega), Int.neg_neg]
theorem inr_inv {n : Int} {u : List Int} (h : inr n u) : inr n (invW u) := by
  intro z hz
  simp only [invW, List.mem_reverse, List.mem_map] at hz
  obtain ⟨x, hx, rfl⟩ := hz
  have := h x hx
  omega
theorem inr_gen {n y j : Int} (hy : y ≠ 0 ∧ y < n ∧ -n < y) (hj : 1 ≤ j ∧ j ≤ n) : inr n (gen y j) := by
  intro z hz
  unfold gen at hz
  repeat' split at hz
  all_goals simp only [List.mem_cons, List.not_mem_nil, or_false] at hz
  all_goals omega
theorem inr_sub {n y z : Int} (hy : y ≠ 0 ∧ y < n ∧ -n < y) (hz : z ≠ 0 ∧ -n ≤ z ∧ z ≤ n) : inr n (sub y z) := by
  unfold sub
  split
  · exact inr_inv (inr_gen hy (by omega))
  · exact inr_gen hy (by omega)
theorem inr_flat {n y : Int} {u : List Int} (hy : y ≠ 0 ∧ y < n ∧ -n < y) (h : inr n u) : inr n (u.flatMap (sub y)) := by
  intro z hz
  obtain ⟨x, hx, hz⟩ := List.mem_flatMap.1 hz
  exact inr_sub hy (h x hx) z hz
theorem inr_stp {n y : Int} {u : List Int} (hy : y ≠ 0 ∧ y < n ∧ -n < y) (h : inr n u) : inr n (stp y u) :=
  fun z hz => inr_flat hy h z (short_mem _ z hz)
theorem inr_img {n : Int} : ∀ {w u : List Int}, brd n w → inr n u → inr n (img w u)
  | [], _, _, h => h
  | y :: w, u, hw, h => inr_img (w := w) (u := stp y u) (fun z hz => hw z (by simp [hz])) (inr_stp (hw y (by simp)) h)
theorem rd_img : ∀ {w u : List Int}, Rd u → Rd (img w u)
  | [], _, h => h
  | _ :: w, _, _ => rd_img (w := w) (rd_short _)
theorem prg_red : ∀ (w : List Int) (j : Int), red (prg w j) = prg w j
  | [], j => red_of_rd (l := [j]) trivial
  | y :: w, j => by
    unfold prg
    repeat' split
    all_goals first | exact red_red _ | exact prg_red w _
theorem sub_hom {y z : Int} {w : List Int} (hy : y ≠ 0) (hz : z ≠ 0) : red ((sub y z).flatMap (hom (prg w))) = red (hom (prg (y :: w)) z) := by
  have key : ∀ j : Int, 0 < j → red ((gen y j).flatMap (hom (prg w))) = red (prg (y :: w) j) := by
    intro j hj
    have h1 : ∀ k : Int, 0 < k → hom (prg w) k = prg w k := fun k hk => by unfold hom; rw [if_neg (by omega), if_neg (by omega)]
    have h2 : ∀ k : Int, 0 < k → hom (prg w) (-k) = invW (prg w k) := fun k hk => by rw [hom_neg, h1 k hk]
    unfold gen
    conv => rhs; unfold prg
    split
    · split
      · subst j
        simp only [List.flatMap_cons, List.flatMap_nil, List.append_nil]
        rw [h1 y (by omega), h1 (y + 1) (by omega), h2 y (by omega), red_red]
      · split
        · simp only [List.flatMap_cons, List.flatMap_nil, List.append_nil]; rw [h1 y (by omega)]
        · simp only [List.flatMap_cons, List.flatMap_nil, List.append_nil]; rw [h1 j hj]
    · split
      · simp only [List.flatMap_cons, List.flatMap_nil, List.append_nil]; rw [h1 (-y + 1) (by omega)]
      · split
        · simp only [List.flatMap_cons, List.flatMap_nil, List.append_nil]
          rw [h1 (-y + 1) (by omega), h1 (-y) (by omega), h2 (-y + 1) (by omega), red_red]
        · simp only [List.flatMap_cons, List.flatMap_nil, List.append_nil]; rw [h1 j hj]
  unfold sub
  split
  · rw [invW_flat (hom_neg _), red_inv, key (-z) (by omega), ← red_inv]
    unfold hom
    rw [if_pos (by assumption)]
  · rw [key z (by omega)]
    unfold hom
    rw [if_neg (by omega), if_neg hz]
/-- BOTH WAYS LEAD TO THE SAME IMAGES. -/
theorem img_hom {n : Int} : ∀ {w u : List Int}, brd n w → inr n u → Rd u → img w u = red (u.flatMap (hom (prg w)))
  | [], u, _, hu, hr => by
    have e : u.flatMap (hom (prg [])) = u := by
      clear hr
      induction u with
      | nil => rfl
      | cons z u ih =>
        rw [List.flatMap_cons, ih (fun y hy => hu y (by simp [hy]))]
        have hz := hu z (by simp)
        have : hom (prg []) z = [z] := by
          unfold hom
          split
          · simp [prg, invW]
          · rw [if_neg hz.1]; rfl
        rw [this]; rfl
    rw [e, red_of_rd hr]; rfl
  | y :: w, u, hw, hu, hr => by
    have hy := hw y (by simp)
    show img w (stp y u) = _
    rw [img_hom (fun z hz => hw z (by simp [hz])) (inr_stp hy hu) (rd_short _)]
    unfold stp
    rw [← red_short, red_hom (hom_neg _), List.flatMap_assoc]
    exact red_flat_congr (fun z hz => sub_hom hy.1 (hu z hz).1)
theorem img_one {n : Int} {w : List Int} {j : Int} (hw : brd n w) (hj : 1 ≤ j ∧ j ≤ n) : img w [j] = prg w j := by
  rw [img_hom hw (u := [j]) (fun z hz => by simp only [List.mem_singleton] at hz; subst hz; omega) trivial]
  simp only [List.flatMap_cons, List.flatMap_nil, List.append_nil]
  unfold hom
  rw [if_neg (by omega), if_neg (by omega), prg_red]

/-! ### how long images become -/
def spc (y : Int) : Int := if 0 < y then y else -y + 1
def cj (y : Int) : Int := if 0 < y then y else y - 1
def tt (y : Int) : Int := if 0 < y then y + 1 else -y
theorem sub_sp {y z : Int} (hy : y ≠ 0) (h : z = spc y ∨ z = -spc y) : ∃ t, sub y z = [cj y, t, -cj y] := by
  unfold spc cj sub gen at *
  by_cases p : 0 < y
  · simp only [if_pos p] at h ⊢
    rcases h with rfl | rfl
    · exact ⟨z + 1, by rw [if_neg (by omega), if_pos rfl]⟩
    · exact ⟨-(y + 1), by rw [if_pos (by omega), Int.neg_neg, if_pos rfl]; simp [invW]⟩
  · simp only [if_neg p] at h ⊢
    have e : -(-y + 1) = y - 1 := by omega
    rcases h with rfl | rfl
    · exact ⟨-y, by rw [if_neg (by omega), if_neg (by omega), if_pos rfl]; simp; omega⟩
    · exact ⟨y, by rw [if_pos (by omega), Int.neg_neg, if_neg (by omega), if_pos rfl]; simp [invW]; omega⟩
theorem sub_ot {y z : Int} (h : ¬ (z = spc y ∨ z = -spc y)) : ∃ t, sub y z = [t] := by
  unfold spc sub gen at *
  by_cases p : 0 < y
  · simp only [if_pos p] at h ⊢
    split
    · rw [if_neg (by omega)]
      split
      · exact ⟨-y, rfl⟩
      · exact ⟨z, by simp [invW]⟩
    · rw [if_neg (by omega)]
      split
      · exact ⟨y, rfl⟩
      · exact ⟨z, rfl⟩
  · simp only [if_neg p] at h ⊢
    split
    · split
      · exact ⟨-(-y + 1), rfl⟩
      · rw [if_neg (by omega)]; exact ⟨z, by simp [invW]⟩
    · split
      · exact ⟨-y + 1, rfl⟩
      · rw [if_neg (by omega)]; exact ⟨z, rfl⟩
theorem grow_key {y : Int} (hy : y ≠ 0) : ∀ (u : List Int), (∃ g : List Int, g.length ≤ 2 * u.length + 1 ∧ ∀ st, RS st → (u.flatMap (sub y)).foldl push st = g.foldl push st) ∧
    (∃ g : List Int, g.length ≤ 2 * u.length + 1 ∧ ∀ st, RS st → (-cj y :: u.flatMap (sub y)).foldl push st = g.foldl push st)
  | [] => ⟨⟨[], by simp, fun _ _ => rfl⟩, ⟨[-cj y], by simp, fun _ _ => rfl⟩⟩
  | z :: u => by
    obtain ⟨⟨g0, l0, h0⟩, ⟨g1, l1, h1⟩⟩ := grow_key hy u
    by_cases c : z = spc y ∨ z = -spc y
    · obtain ⟨t, ht⟩ := sub_sp hy c
      refine ⟨⟨cj y :: t :: g1, by simp only [List.length_cons]; omega, fun st hs => ?_⟩, ⟨t :: g1, by simp only [List.length_cons]; omega, fun st hs => ?_⟩⟩
      · rw [List.flatMap_cons, ht]
        have := h1 (push (push st (cj y)) t) (rs_push (rs_push hs _) _)
        simpa using this
      · rw [List.flatMap_cons, ht]
        have := h1 (push st t) (rs_push hs _)
        have hp := push_push hs (-cj y)
        rw [Int.neg_neg] at hp
        simp only [List.cons_append, List.nil_append, List.foldl_cons, hp] at this ⊢
        exact this
    · obtain ⟨t, ht⟩ := sub_ot c
      refine ⟨⟨t :: g0, by simp only [List.length_cons]; omega, fun st hs => ?_⟩, ⟨-cj y :: t :: g0, by simp only [List.length_cons]; omega, fun st hs => ?_⟩⟩
      · rw [List.flatMap_cons, ht]
        have := h0 (push st t) (rs_push hs _)
        simpa using this
      · rw [List.flatMap_cons, ht]
        have := h0 (push (push st (-cj y)) t) (rs_push (rs_push hs _) _)
        simpa using this
theorem stp_len {y : Int} (hy : y ≠ 0) (u : List Int) : (stp y u).length ≤ 2 * u.length + 1 := by
  obtain ⟨⟨g, hl, h⟩, _⟩ := grow_key hy u
  unfold stp
  rw [← red_short]
  have e : red (u.flatMap (sub y)) = red g := h [] trivial
  rw [e, red_short]
  exact Nat.le_trans (short_len g) hl
theorem img_len {n : Int} : ∀ {w u : List Int}, brd n w → (img w u).length + 1 ≤ 2 ^ w.length * (u.length + 1)
  | [], u, _ => by simp [img]
  | y :: w, u, hw => by
    have h1 := img_len (w := w) (u := stp y u) (fun z hz => hw z (by simp [hz]))
    have h2 := stp_len (hw y (by simp)).1 u
    show (img w (stp y u)).length + 1 ≤ _
    refine Nat.le_trans h1 ?_
    rw [List.length_cons, Nat.pow_succ, Nat.mul_assoc]
    exact Nat.mul_le_mul_left _ (by omega)
theorem sub_len (y z : Int) : (sub y z).length ≤ 3 := by
  unfold sub gen
  repeat' split
  all_goals simp [invW]
theorem subs_len (y : Int) : ∀ u : List Int, (u.flatMap (sub y)).length ≤ 3 * u.length
  | [] => by simp
  | z :: u => by
    have := subs_len y u
    have := sub_len y z
    rw [List.flatMap_cons, List.length_append, List.length_cons]
    omega

/-! ### equal braids -/
theorem img_app (a b u : List Int) : img (a ++ b) u = img b (img a u) := by unfold img; rw [List.foldl_append]
theorem sub_back {y z : Int} (hy : y ≠ 0) (hz : z ≠ 0) : red ((sub y z).flatMap (sub (-y))) = [z] := by
  have key : ∀ j : Int, 0 < j → red ((gen y j).flatMap (sub (-y))) = [j] := by
    intro j hj
    have h1 : ∀ k : Int, 0 < k → sub (-y) k = gen (-y) k := fun k hk => by unfold sub; rw [if_neg (by omega)]
    have h2 : ∀ k : Int, 0 < k → sub (-y) (-k) = invW (gen (-y) k) := fun k hk => by rw [sub_neg (by omega), h1 k hk]
    by_cases p : 0 < y
    · have g1 : gen (-y) y = [y + 1] := by unfold gen; rw [if_neg (by omega), if_pos (by omega)]; simp
      have g2 : gen (-y) (y + 1) = [-(y + 1), y, y + 1] := by unfold gen; rw [if_neg (by omega), if_neg (by omega), if_pos (by omega)]; simp
      unfold gen
      rw [if_pos p]
      split
      · subst j
        simp only [List.flatMap_cons, List.flatMap_nil, List.append_nil]
        rw [h1 y p, h1 (y + 1) (by omega), h2 y p, g1, g2]
        have e : [y + 1] ++ ([-(y + 1), y, y + 1] ++ invW [y + 1]) = [y + 1] ++ (invW [y + 1] ++ ([y] ++ ([y + 1] ++ (invW [y + 1] ++ [])))) := by simp [invW]
        rw [e]
        unfold red
        rw [fold_cancel _ _ (st := []) trivial, List.foldl_append, fold_cancel _ _ (rs_fold _ (st := []) trivial)]
        rfl
      · split
        · subst j
          simp only [List.flatMap_cons, List.flatMap_nil, List.append_nil]
          rw [h1 y p, g1]; rfl
        · simp only [List.flatMap_cons, List.flatMap_nil, List.append_nil]
          rw [h1 j hj]
          unfold gen
          rw [if_neg (by omega), if_neg (by omega), if_neg (by omega)]; rfl
    · have g1 : gen (-y) (-y) = [-y, -y + 1, y] := by unfold gen; rw [if_pos (by omega), if_pos (by omega)]; simp
      have g2 : gen (-y) (-y + 1) = [-y] := by unfold gen; rw [if_pos (by omega), if_neg (by omega), if_pos (by omega)]
      unfold gen
      rw [if_neg p]
      split
      · subst j
        simp only [List.flatMap_cons, List.flatMap_nil, List.append_nil]
        rw [h1 (-y + 1) (by omega), g2]; rfl
      · split
        · subst j
          simp only [List.flatMap_cons, List.flatMap_nil, List.append_nil]
          rw [h2 (-y + 1) (by omega), h1 (-y) (by omega), h1 (-y + 1) (by omega), g1, g2]
          have e : invW [-y] ++ ([-y, -y + 1, y] ++ [-y]) = [y] ++ (invW [y] ++ ([-y + 1] ++ ([y] ++ (invW [y] ++ [])))) := by simp [invW]
          rw [e]
          unfold red
          rw [fold_cancel _ _ (st := []) trivial, List.foldl_append, fold_cancel _ _ (rs_fold _ (st := []) trivial)]
          rfl
        · simp only [List.flatMap_cons, List.flatMap_nil, List.append_nil]
          rw [h1 j hj]
          unfold gen
          rw [if_pos (by omega), if_neg (by omega), if_neg (by omega)]; rfl
  unfold sub
  split
  · have := invW_flat (h := sub (-y)) (fun z => sub_neg (by omega) z) (gen y (-z))
    unfold sub at this
    rw [this, red_inv]
    have hk := key (-z) (by omega)
    unfold sub at hk
    rw [hk]; simp [invW]
  · have hk := key z (by omega)
    unfold sub at hk
    exact hk
theorem stp_back {n y : Int} {u : List Int} (hy : y ≠ 0 ∧ y < n ∧ -n < y) (hu : inr n u) (hr : Rd u) : stp (-y) (stp y u) = u := by
  unfold stp
  rw [← red_short, ← red_short, red_hom (fun z => sub_neg (by omega) z), List.flatMap_assoc]
  have := red_flat_congr (f := fun z => (sub y z).flatMap (sub (-y))) (g := fun z => [z]) (u := u) (fun z hz => by rw [sub_back hy.1 (hu z hz).1]; exact (red_of_rd (l := [z]) trivial).symm)
  rw [this]
  have e : u.flatMap (fun z => [z]) = u := by
    clear this hu hr
    induction u with
    | nil => rfl
    | cons z u ih => rw [List.flatMap_cons, ih]; rfl
  rw [e, red_of_rd hr]
theorem img_back {n : Int} : ∀ {a u : List Int}, brd n a → inr n u → Rd u → img (a ++ invW a) u = u
  | [], _, _, _, _ => rfl
  | y :: a, u, ha, hu, hr => by
    have hy := ha y (by simp)
    rw [invW_cons, ← List.append_assoc, img_app]
    show img [-y] (img (a ++ invW a) (stp y u)) = u
    rw [img_back (fun z hz => ha z (by simp [hz])) (inr_stp hy hu) (rd_short _)]
    exact stp_back hy hu hr
theorem brd_inv {n : Int} {w : List Int} (h : brd n w) : brd n (invW w) := by
  intro z hz
  simp only [invW, List.mem_reverse, List.mem_map] at hz
  obtain ⟨x, hx, rfl⟩ := hz
  have := h x hx
  omega
theorem img_forth {n : Int} {a u : List Int} (ha : brd n a) (hu : inr n u) (hr : Rd u) : img (invW a ++ a) u = u := by
  have := img_back (brd_inv ha) hu hr
  rwa [invW_invW] at this
theorem inr_one {n x : Int} (h : 1 ≤ x ∧ x ≤ n) : inr n [x] := fun z hz => by simp only [List.mem_singleton] at hz; subst hz; omega
theorem hom_congr {n : Int} {o p : Int → List Int} (h : ∀ x, 1 ≤ x ∧ x ≤ n → o x = p x) {u : List Int} (hu : inr n u) : u.flatMap (hom o) = u.flatMap (hom p) := by
  induction u with
  | nil => rfl
  | cons z u ih =>
    rw [List.flatMap_cons, List.flatMap_cons, ih (fun y hy => hu y (by simp [hy]))]
    have hz := hu z (by simp)
    congr 1
    unfold hom
    split
    · rw [h (-z) (by omega)]
    · split
      · rfl
      · rw [h z (by omega)]
end Go.Proofs.Ytgjfpmjllpgadaa
