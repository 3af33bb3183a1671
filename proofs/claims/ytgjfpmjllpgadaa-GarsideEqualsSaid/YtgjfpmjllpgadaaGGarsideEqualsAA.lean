/-
  Plain facts on lists and numbers that the walks use; nothing of the program is here.
-/
import Derived.Calls
set_option linter.unusedVariables false
set_option linter.unusedSimpArgs false
namespace Go.Proofs.Ytgjfpmjllpgadaa

/-- The first value of f below n that is not 0, else 0. -/
def firstNZ (f : Nat → Int) : Nat → Int
  | 0 => 0
  | n + 1 => if firstNZ f n = 0 then f n else firstNZ f n

theorem firstNZ_zero {f : Nat → Int} {n : Nat} (h : ∀ j, j < n → f j = 0) : firstNZ f n = 0 := by
  induction n with
  | zero => rfl
  | succ n ih => simp [firstNZ, ih (fun j hj => h j (by omega)), h n (by omega)]

theorem firstNZ_zero_iff {f : Nat → Int} {n : Nat} : firstNZ f n = 0 ↔ ∀ j, j < n → f j = 0 := by
  refine ⟨fun h => ?_, firstNZ_zero⟩
  induction n with
  | zero => intro j hj; omega
  | succ n ih =>
    simp only [firstNZ] at h
    split at h
    · rename_i h0
      intro j hj
      by_cases e : j = n
      · subst e; exact h
      · exact ih h0 j (by omega)
    · contradiction


theorem getD_lt {α : Type} {xs : List α} {k : Nat} (d : α) (h : k < xs.length) : xs.getD k d = xs[k] := by
  simp [List.getD, List.getElem?_eq_getElem h]

end Go.Proofs.Ytgjfpmjllpgadaa

/-
  Reducing words: by a stack from the left, or from the right. Plain facts: nothing of the program is here.
-/
set_option linter.unusedVariables false
set_option linter.unusedSimpArgs false
namespace Go.Proofs.Ytgjfpmjllpgadaa

/-- from the left: the stack grows at its end -/
def push (st : List Int) (x : Int) : List Int := if st.getLast? = some (-x) then st.dropLast else st ++ [x]
/-- from the right -/
def consR (x : Int) (s : List Int) : List Int := if s.head? = some (-x) then s.tail else x :: s
def red (w : List Int) : List Int := w.foldl push []
def short (w : List Int) : List Int := w.foldr consR []
/-- no two neighbours cancel -/
def Rd : List Int → Prop
  | [] => True
  | [_] => True
  | x :: y :: l => y ≠ -x ∧ Rd (y :: l)
theorem Rd.tail {x : Int} {l : List Int} (h : Rd (x :: l)) : Rd l := by
  cases l with
  | nil => trivial
  | cons y l => exact h.2
theorem rd_consR {x : Int} {s : List Int} (h : Rd s) : Rd (consR x s) := by
  unfold consR
  cases s with
  | nil => simp [Rd]
  | cons y s =>
    by_cases e : y = -x
    · rw [if_pos (by simp [e])]; exact h.tail
    · rw [if_neg (by simpa using e)]; exact ⟨e, h⟩
theorem rd_short : ∀ w, Rd (short w)
  | [] => trivial
  | x :: w => rd_consR (rd_short w)
/-- the stack read backwards -/
def RS (st : List Int) : Prop := Rd st.reverse
theorem push_rev (st : List Int) (x : Int) : (push st x).reverse = if st.reverse.head? = some (-x) then st.reverse.tail else x :: st.reverse := by
  unfold push
  rw [List.head?_reverse]
  split
  · rw [List.tail_reverse]
  · simp
theorem Rd.neg {x y : Int} {l : List Int} (h : Rd (x :: y :: l)) : x ≠ -y := by have := h.1; omega
theorem rs_push {st : List Int} (h : RS st) (x : Int) : RS (push st x) := by
  unfold RS at *
  rw [push_rev]
  exact rd_consR (x := x) h
theorem push_push {st : List Int} (h : RS st) (x : Int) : push (push st x) (-x) = st := by
  have e : (push (push st x) (-x)).reverse = st.reverse := by
    rw [push_rev, push_rev]
    unfold RS at h
    generalize st.reverse = r at *
    by_cases c : r.head? = some (-x)
    · rw [if_pos c]
      cases r with
      | nil => simp at c
      | cons y r =>
        simp only [List.head?_cons, Option.some.injEq] at c
        subst c
        simp only [List.tail_cons]
        cases r with
        | nil => simp
        | cons z r =>
          have := h.1
          exact if_neg (by simp only [List.tail_cons, List.head?_cons, Option.some.injEq]; omega)
    · rw [if_neg c, if_pos (by simp)]; rfl
  have := congrArg List.reverse e
  simpa using this
theorem foldl_consR {st : List Int} (h : RS st) (x : Int) (s : List Int) : (consR x s).foldl push st = (x :: s).foldl push st := by
  unfold consR
  split
  · rename_i c
    cases s with
    | nil => simp at c
    | cons y s =>
      simp only [List.head?_cons, Option.some.injEq] at c
      subst c
      simp only [List.tail_cons, List.foldl_cons]
      rw [push_push h]
  · rfl
theorem foldl_short : ∀ (w : List Int) {st : List Int}, RS st → w.foldl push st = (short w).foldl push st
  | [], _, _ => rfl
  | x :: w, st, h => by
    show (x :: w).foldl push st = (consR x (short w)).foldl push st
    rw [foldl_consR h]
    simp only [List.foldl_cons]
    exact foldl_short w (rs_push h x)
theorem foldl_rd : ∀ (r st : List Int), Rd (st.reverse.headD 0 :: r) ∨ st = [] ∧ Rd r → r.foldl push st = st ++ r
  | [], st, _ => by simp
  | x :: r, st, h => by
    have hp : push st x = st ++ [x] := by
      unfold push
      rw [if_neg]
      intro c
      rcases h with h | ⟨rfl, _⟩
      · rw [← List.head?_reverse] at c
        cases hr : st.reverse with
        | nil => rw [hr] at c; simp at c
        | cons y l =>
          rw [hr] at c h
          simp only [List.head?_cons, Option.some.injEq] at c
          have := h.1
          simp only [List.headD_cons] at this
          omega
      · simp at c
    simp only [List.foldl_cons]
    rw [hp, foldl_rd r (st ++ [x]) (.inl (by
      simp only [List.reverse_append, List.reverse_cons, List.reverse_nil, List.nil_append, List.singleton_append, List.headD_cons]
      rcases h with h | ⟨_, h⟩
      · exact h.tail
      · exact h))]
    simp
/-- BOTH WAYS LEAD TO THE SAME WORD. -/
theorem red_short (w : List Int) : red w = short w := by
  unfold red
  rw [foldl_short w (st := []) trivial, foldl_rd (short w) [] (.inr ⟨rfl, rd_short w⟩)]
  rfl
theorem short_len : ∀ w : List Int, (short w).length ≤ w.length
  | [] => Nat.le_refl _
  | x :: w => by
    have := short_len w
    show (consR x (short w)).length ≤ _
    unfold consR
    split
    · simp; omega
    · simp; omega
theorem short_mem : ∀ (w : List Int) (y : Int), y ∈ short w → y ∈ w
  | x :: w, y, h => by
    have h2 : y ∈ consR x (short w) := h
    unfold consR at h2
    split at h2
    · exact List.mem_cons_of_mem _ (short_mem w y (List.mem_of_mem_tail h2))
    · rcases List.mem_cons.1 h2 with rfl | h3
      · simp
      · exact List.mem_cons_of_mem _ (short_mem w y h3)
def invW (zs : List Int) : List Int := (zs.map fun x => -x).reverse
theorem invW_push (st : List Int) (x : Int) : invW (push st x) = consR (-x) (invW st) := by
  unfold push consR invW
  rw [List.head?_reverse, List.getLast?_map]
  by_cases c : st.getLast? = some (-x)
  · rw [if_pos c, if_pos (by rw [c]; rfl)]
    rw [List.tail_reverse, List.map_dropLast]
  · rw [if_neg c, if_neg]
    · simp
    · intro c2
      apply c
      cases h : st.getLast? with
      | none => rw [h] at c2; simp at c2
      | some y => rw [h] at c2; simp at c2; rw [show y = -x by omega]
theorem short_inv (w : List Int) : short (invW w) = invW (red w) := by
  have key : ∀ (w st : List Int), (invW w).foldr consR (invW st) = invW (w.foldl push st) := by
    intro w
    induction w with
    | nil => intro st; rfl
    | cons x w ih =>
      intro st
      simp only [List.foldl_cons]
      rw [← ih (push st x), invW_push]
      simp [invW, List.foldr_append]
  exact key w []
theorem red_inv (w : List Int) : red (invW w) = invW (red w) := by rw [red_short, short_inv]
theorem red_red (w : List Int) : red (red w) = red w := by
  have h := foldl_rd (short w) [] (.inr ⟨rfl, rd_short w⟩)
  rw [red_short w]
  exact h
end Go.Proofs.Ytgjfpmjllpgadaa

/- Braids as maps of a free group: the letters from the first on, or from the last on. Plain facts: nothing of the program is here. -/
set_option linter.unusedVariables false
set_option linter.unusedSimpArgs false
namespace Go.Proofs.Ytgjfpmjllpgadaa

/-! ### reducing inside of a word -/
theorem red_of_rd {l : List Int} (h : Rd l) : red l = l := by
  unfold red
  rw [foldl_rd l [] (.inr ⟨rfl, h⟩)]
  rfl
theorem rs_fold : ∀ (l : List Int) {st : List Int}, RS st → RS (l.foldl push st)
  | [], _, h => h
  | x :: l, _, h => rs_fold l (rs_push h x)
theorem fold_red {st : List Int} (h : RS st) (w : List Int) : (red w).foldl push st = w.foldl push st := by
  rw [red_short]; exact (foldl_short w h).symm
theorem red_app_l (a b : List Int) : red (red a ++ b) = red (a ++ b) := by
  unfold red
  rw [List.foldl_append, List.foldl_append]
  have := red_red a
  unfold red at this
  rw [this]
theorem red_app_r (a b : List Int) : red (a ++ red b) = red (a ++ b) := by
  show (a ++ red b).foldl push [] = (a ++ b).foldl push []
  rw [List.foldl_append, List.foldl_append]
  exact fold_red (rs_fold a (st := []) trivial) b
theorem invW_invW (a : List Int) : invW (invW a) = a := by
  simp [invW, List.map_reverse, Function.comp_def]
theorem invW_app (a b : List Int) : invW (a ++ b) = invW b ++ invW a := by simp [invW]
theorem invW_cons (x : Int) (a : List Int) : invW (x :: a) = invW a ++ [-x] := by simp [invW]
theorem invW_nil : invW [] = [] := rfl
theorem fold_cancel : ∀ (a c : List Int) {st : List Int}, RS st → (a ++ (invW a ++ c)).foldl push st = c.foldl push st
  | [], c, st, h => rfl
  | x :: a, c, st, h => by
    rw [invW_cons, List.append_assoc, List.cons_append, List.foldl_cons]
    have := fold_cancel a ([-x] ++ c) (rs_push h x)
    rw [this]
    show c.foldl push (push (push st x) (-x)) = _
    rw [push_push h]
theorem fold_flat_red (f : Int → List Int) : ∀ (u : List Int) {st : List Int}, RS st → (u.flatMap f).foldl push st = (u.flatMap fun z => red (f z)).foldl push st
  | [], _, _ => rfl
  | z :: u, st, h => by
    rw [List.flatMap_cons, List.flatMap_cons, List.foldl_append, List.foldl_append, fold_red h (f z)]
    exact fold_flat_red f u (rs_fold _ h)
theorem red_flat_red (f : Int → List Int) (u : List Int) : red (u.flatMap f) = red (u.flatMap fun z => red (f z)) := fold_flat_red f u (st := []) trivial
theorem red_flat_congr {f g : Int → List Int} {u : List Int} (h : ∀ z ∈ u, red (f z) = red (g z)) : red (u.flatMap f) = red (u.flatMap g) := by
  rw [red_flat_red f, red_flat_red g]
  congr 1
  induction u with
  | nil => rfl
  | cons z u ih =>
    rw [List.flatMap_cons, List.flatMap_cons, h z (by simp), ih (fun y hy => h y (by simp [hy]))]
/-- a map that turns inverses into inverses may be carried out ahead of reducing -/
theorem fold_hom {h : Int → List Int} (hi : ∀ z, h (-z) = invW (h z)) : ∀ (U : List Int) {st : List Int}, RS st → (U.flatMap h).foldl push st = ((short U).flatMap h).foldl push st
  | [], _, _ => rfl
  | x :: U, st, hs => by
    have e : short (x :: U) = consR x (short U) := rfl
    have ih := fold_hom hi U (rs_fold (h x) hs)
    rw [List.flatMap_cons, List.foldl_append, ih, e]
    unfold consR
    split
    · rename_i c
      cases hU : short U with
      | nil => rw [hU] at c; simp at c
      | cons y s =>
        rw [hU] at c
        simp only [List.head?_cons, Option.some.injEq] at c
        subst c
        rw [List.tail_cons, List.flatMap_cons, ← List.foldl_append, hi x]
        exact fold_cancel _ _ hs
    · rw [List.flatMap_cons, List.foldl_append]
theorem red_hom {h : Int → List Int} (hi : ∀ z, h (-z) = invW (h z)) (U : List Int) : red ((red U).flatMap h) = red (U.flatMap h) := by
  rw [red_short U]
  exact (fold_hom hi U (st := []) trivial).symm
theorem invW_flat {h : Int → List Int} (hi : ∀ z, h (-z) = invW (h z)) : ∀ l : List Int, (invW l).flatMap h = invW (l.flatMap h)
  | [] => rfl
  | x :: l => by
    rw [invW_cons, List.flatMap_append, invW_flat hi l, List.flatMap_cons (x := x), invW_app]
    simp [hi]

/-! ### the letters of a braid -/
/-- a generator under a letter -/
def gen (y j : Int) : List Int :=
  if 0 < y then (if j = y then [y, y + 1, -y] else if j = y + 1 then [y] else [j]) else (if j = -y then [-y + 1] else if j = -y + 1 then [-(-y + 1), -y, -y + 1] else [j])
def sub (y z : Int) : List Int := if z < 0 then invW (gen y (-z)) else gen y z
def stp (y : Int) (u : List Int) : List Int := short (u.flatMap (sub y))
/-- the letters from the first one on -/
def img (w u : List Int) : List Int := w.foldl (fun u y => stp y u) u
/-- the letters from the last one on -/
def prg : List Int → Int → List Int
  | [], j => [j]
  | y :: w, j =>
    if 0 < y then (if j = y then red (prg w y ++ (prg w (y + 1) ++ invW (prg w y))) else if j = y + 1 then prg w y else prg w j)
    else (if j = -y then prg w (-y + 1) else if j = -y + 1 then red (invW (prg w (-y + 1)) ++ (prg w (-y) ++ prg w (-y + 1))) else prg w j)
def hom (o : Int → List Int) (z : Int) : List Int := if z < 0 then invW (o (-z)) else if z = 0 then [] else o z
/-- letters of n generators -/
def inr (n : Int) (u : List Int) : Prop := ∀ z ∈ u, z ≠ 0 ∧ -n ≤ z ∧ z ≤ n
/-- letters of braids of n strands -/
def brd (n : Int) (w : List Int) : Prop := ∀ y ∈ w, y ≠ 0 ∧ y < n ∧ -n < y

theorem hom_neg (o : Int → List Int) (z : Int) : hom o (-z) = invW (hom o z) := by
  unfold hom
  rcases (show z < 0 ∨ z = 0 ∨ 0 < z by omega) with h | h | h
  · rw [if_neg (by omega), if_neg (by omega), if_pos h, invW_invW]
  · subst h; simp [invW]
  · rw [if_pos (by omega), if_neg (by omega), if_neg (by omega), Int.neg_neg]
theorem sub_neg {y : Int} (hy : y ≠ 0) (z : Int) : sub y (-z) = invW (sub y z) := by
  unfold sub
  rcases (show z < 0 ∨ z = 0 ∨ 0 < z by omega) with h | h | h
  · rw [if_neg (by omega), if_pos h, invW_invW]
  · subst h
    simp only [Int.neg_zero, Int.lt_irrefl, if_false]
    unfold gen
    split
    · rw [if_neg (by omega), if_neg (by omega)]; simp [invW]
    · rw [if_neg (by omega), if_neg (by omega)]; simp [invW]
  · rw [if_pos (by omega), if_neg (by omega), Int.neg_neg]
theorem inr_inv {n : Int} {u : List Int} (h : inr n u) : inr n (invW u) := by
  intro z hz
  simp only [invW, List.mem_reverse, List.mem_map] at hz
  obtain ⟨x, hx, rfl⟩ := hz
  have := h x hx
  omega
theorem inr_gen {n y j : Int} (hy : y ≠ 0 ∧ y < n ∧ -n < y) (hj : 1 ≤ j ∧ j ≤ n) : inr n (gen y j) := by
  intro z hz
  unfold gen at hz
  repeat' split at hz
  all_goals simp only [List.mem_cons, List.not_mem_nil, or_false] at hz
  all_goals omega
theorem inr_sub {n y z : Int} (hy : y ≠ 0 ∧ y < n ∧ -n < y) (hz : z ≠ 0 ∧ -n ≤ z ∧ z ≤ n) : inr n (sub y z) := by
  unfold sub
  split
  · exact inr_inv (inr_gen hy (by omega))
  · exact inr_gen hy (by omega)
theorem inr_flat {n y : Int} {u : List Int} (hy : y ≠ 0 ∧ y < n ∧ -n < y) (h : inr n u) : inr n (u.flatMap (sub y)) := by
  intro z hz
  obtain ⟨x, hx, hz⟩ := List.mem_flatMap.1 hz
  exact inr_sub hy (h x hx) z hz
theorem inr_stp {n y : Int} {u : List Int} (hy : y ≠ 0 ∧ y < n ∧ -n < y) (h : inr n u) : inr n (stp y u) :=
  fun z hz => inr_flat hy h z (short_mem _ z hz)
theorem inr_img {n : Int} : ∀ {w u : List Int}, brd n w → inr n u → inr n (img w u)
  | [], _, _, h => h
  | y :: w, u, hw, h => inr_img (w := w) (u := stp y u) (fun z hz => hw z (by simp [hz])) (inr_stp (hw y (by simp)) h)
theorem rd_img : ∀ {w u : List Int}, Rd u → Rd (img w u)
  | [], _, h => h
  | _ :: w, _, _ => rd_img (w := w) (rd_short _)
theorem prg_red : ∀ (w : List Int) (j : Int), red (prg w j) = prg w j
  | [], j => red_of_rd (l := [j]) trivial
  | y :: w, j => by
    unfold prg
    repeat' split
    all_goals first | exact red_red _ | exact prg_red w _
theorem sub_hom {y z : Int} {w : List Int} (hy : y ≠ 0) (hz : z ≠ 0) : red ((sub y z).flatMap (hom (prg w))) = red (hom (prg (y :: w)) z) := by
  have key : ∀ j : Int, 0 < j → red ((gen y j).flatMap (hom (prg w))) = red (prg (y :: w) j) := by
    intro j hj
    have h1 : ∀ k : Int, 0 < k → hom (prg w) k = prg w k := fun k hk => by unfold hom; rw [if_neg (by omega), if_neg (by omega)]
    have h2 : ∀ k : Int, 0 < k → hom (prg w) (-k) = invW (prg w k) := fun k hk => by rw [hom_neg, h1 k hk]
    unfold gen
    conv => rhs; unfold prg
    split
    · split
      · subst j
        simp only [List.flatMap_cons, List.flatMap_nil, List.append_nil]
        rw [h1 y (by omega), h1 (y + 1) (by omega), h2 y (by omega), red_red]
      · split
        · simp only [List.flatMap_cons, List.flatMap_nil, List.append_nil]; rw [h1 y (by omega)]
        · simp only [List.flatMap_cons, List.flatMap_nil, List.append_nil]; rw [h1 j hj]
    · split
      · simp only [List.flatMap_cons, List.flatMap_nil, List.append_nil]; rw [h1 (-y + 1) (by omega)]
      · split
        · simp only [List.flatMap_cons, List.flatMap_nil, List.append_nil]
          rw [h1 (-y + 1) (by omega), h1 (-y) (by omega), h2 (-y + 1) (by omega), red_red]
        · simp only [List.flatMap_cons, List.flatMap_nil, List.append_nil]; rw [h1 j hj]
  unfold sub
  split
  · rw [invW_flat (hom_neg _), red_inv, key (-z) (by omega), ← red_inv]
    unfold hom
    rw [if_pos (by assumption)]
  · rw [key z (by omega)]
    unfold hom
    rw [if_neg (by omega), if_neg hz]
/-- BOTH WAYS LEAD TO THE SAME IMAGES. -/
theorem img_hom {n : Int} : ∀ {w u : List Int}, brd n w → inr n u → Rd u → img w u = red (u.flatMap (hom (prg w)))
  | [], u, _, hu, hr => by
    have e : u.flatMap (hom (prg [])) = u := by
      clear hr
      induction u with
      | nil => rfl
      | cons z u ih =>
        rw [List.flatMap_cons, ih (fun y hy => hu y (by simp [hy]))]
        have hz := hu z (by simp)
        have : hom (prg []) z = [z] := by
          unfold hom
          split
          · simp [prg, invW]
          · rw [if_neg hz.1]; rfl
        rw [this]; rfl
    rw [e, red_of_rd hr]; rfl
  | y :: w, u, hw, hu, hr => by
    have hy := hw y (by simp)
    show img w (stp y u) = _
    rw [img_hom (fun z hz => hw z (by simp [hz])) (inr_stp hy hu) (rd_short _)]
    unfold stp
    rw [← red_short, red_hom (hom_neg _), List.flatMap_assoc]
    exact red_flat_congr (fun z hz => sub_hom hy.1 (hu z hz).1)
theorem img_one {n : Int} {w : List Int} {j : Int} (hw : brd n w) (hj : 1 ≤ j ∧ j ≤ n) : img w [j] = prg w j := by
  rw [img_hom hw (u := [j]) (fun z hz => by simp only [List.mem_singleton] at hz; subst hz; omega) trivial]
  simp only [List.flatMap_cons, List.flatMap_nil, List.append_nil]
  unfold hom
  rw [if_neg (by omega), if_neg (by omega), prg_red]

/-! ### how long images become -/
def spc (y : Int) : Int := if 0 < y then y else -y + 1
def cj (y : Int) : Int := if 0 < y then y else y - 1
def tt (y : Int) : Int := if 0 < y then y + 1 else -y
theorem sub_sp {y z : Int} (hy : y ≠ 0) (h : z = spc y ∨ z = -spc y) : ∃ t, sub y z = [cj y, t, -cj y] := by
  unfold spc cj sub gen at *
  by_cases p : 0 < y
  · simp only [if_pos p] at h ⊢
    rcases h with rfl | rfl
    · exact ⟨z + 1, by rw [if_neg (by omega), if_pos rfl]⟩
    · exact ⟨-(y + 1), by rw [if_pos (by omega), Int.neg_neg, if_pos rfl]; simp [invW]⟩
  · simp only [if_neg p] at h ⊢
    have e : -(-y + 1) = y - 1 := by omega
    rcases h with rfl | rfl
    · exact ⟨-y, by rw [if_neg (by omega), if_neg (by omega), if_pos rfl]; simp; omega⟩
    · exact ⟨y, by rw [if_pos (by omega), Int.neg_neg, if_neg (by omega), if_pos rfl]; simp [invW]; omega⟩
theorem sub_ot {y z : Int} (h : ¬ (z = spc y ∨ z = -spc y)) : ∃ t, sub y z = [t] := by
  unfold spc sub gen at *
  by_cases p : 0 < y
  · simp only [if_pos p] at h ⊢
    split
    · rw [if_neg (by omega)]
      split
      · exact ⟨-y, rfl⟩
      · exact ⟨z, by simp [invW]⟩
    · rw [if_neg (by omega)]
      split
      · exact ⟨y, rfl⟩
      · exact ⟨z, rfl⟩
  · simp only [if_neg p] at h ⊢
    split
    · split
      · exact ⟨-(-y + 1), rfl⟩
      · rw [if_neg (by omega)]; exact ⟨z, by simp [invW]⟩
    · split
      · exact ⟨-y + 1, rfl⟩
      · rw [if_neg (by omega)]; exact ⟨z, rfl⟩
theorem grow_key {y : Int} (hy : y ≠ 0) : ∀ (u : List Int), (∃ g : List Int, g.length ≤ 2 * u.length + 1 ∧ ∀ st, RS st → (u.flatMap (sub y)).foldl push st = g.foldl push st) ∧
    (∃ g : List Int, g.length ≤ 2 * u.length + 1 ∧ ∀ st, RS st → (-cj y :: u.flatMap (sub y)).foldl push st = g.foldl push st)
  | [] => ⟨⟨[], by simp, fun _ _ => rfl⟩, ⟨[-cj y], by simp, fun _ _ => rfl⟩⟩
  | z :: u => by
    obtain ⟨⟨g0, l0, h0⟩, ⟨g1, l1, h1⟩⟩ := grow_key hy u
    by_cases c : z = spc y ∨ z = -spc y
    · obtain ⟨t, ht⟩ := sub_sp hy c
      refine ⟨⟨cj y :: t :: g1, by simp only [List.length_cons]; omega, fun st hs => ?_⟩, ⟨t :: g1, by simp only [List.length_cons]; omega, fun st hs => ?_⟩⟩
      · rw [List.flatMap_cons, ht]
        have := h1 (push (push st (cj y)) t) (rs_push (rs_push hs _) _)
        simpa using this
      · rw [List.flatMap_cons, ht]
        have := h1 (push st t) (rs_push hs _)
        have hp := push_push hs (-cj y)
        rw [Int.neg_neg] at hp
        simp only [List.cons_append, List.nil_append, List.foldl_cons, hp] at this ⊢
        exact this
    · obtain ⟨t, ht⟩ := sub_ot c
      refine ⟨⟨t :: g0, by simp only [List.length_cons]; omega, fun st hs => ?_⟩, ⟨-cj y :: t :: g0, by simp only [List.length_cons]; omega, fun st hs => ?_⟩⟩
      · rw [List.flatMap_cons, ht]
        have := h0 (push st t) (rs_push hs _)
        simpa using this
      · rw [List.flatMap_cons, ht]
        have := h0 (push (push st (-cj y)) t) (rs_push (rs_push hs _) _)
        simpa using this
theorem stp_len {y : Int} (hy : y ≠ 0) (u : List Int) : (stp y u).length ≤ 2 * u.length + 1 := by
  obtain ⟨⟨g, hl, h⟩, _⟩ := grow_key hy u
  unfold stp
  rw [← red_short]
  have e : red (u.flatMap (sub y)) = red g := h [] trivial
  rw [e, red_short]
  exact Nat.le_trans (short_len g) hl
theorem img_len {n : Int} : ∀ {w u : List Int}, brd n w → (img w u).length + 1 ≤ 2 ^ w.length * (u.length + 1)
  | [], u, _ => by simp [img]
  | y :: w, u, hw => by
    have h1 := img_len (w := w) (u := stp y u) (fun z hz => hw z (by simp [hz]))
    have h2 := stp_len (hw y (by simp)).1 u
    show (img w (stp y u)).length + 1 ≤ _
    refine Nat.le_trans h1 ?_
    rw [List.length_cons, Nat.pow_succ, Nat.mul_assoc]
    exact Nat.mul_le_mul_left _ (by omega)
theorem sub_len (y z : Int) : (sub y z).length ≤ 3 := by
  unfold sub gen
  repeat' split
  all_goals simp [invW]
theorem subs_len (y : Int) : ∀ u : List Int, (u.flatMap (sub y)).length ≤ 3 * u.length
  | [] => by simp
  | z :: u => by
    have := subs_len y u
    have := sub_len y z
    rw [List.flatMap_cons, List.length_append, List.length_cons]
    omega

/-! ### equal braids -/
theorem img_app (a b u : List Int) : img (a ++ b) u = img b (img a u) := by unfold img; rw [List.foldl_append]
theorem sub_back {y z : Int} (hy : y ≠ 0) (hz : z ≠ 0) : red ((sub y z).flatMap (sub (-y))) = [z] := by
  have key : ∀ j : Int, 0 < j → red ((gen y j).flatMap (sub (-y))) = [j] := by
    intro j hj
    have h1 : ∀ k : Int, 0 < k → sub (-y) k = gen (-y) k := fun k hk => by unfold sub; rw [if_neg (by omega)]
    have h2 : ∀ k : Int, 0 < k → sub (-y) (-k) = invW (gen (-y) k) := fun k hk => by rw [sub_neg (by omega), h1 k hk]
    by_cases p : 0 < y
    · have g1 : gen (-y) y = [y + 1] := by unfold gen; rw [if_neg (by omega), if_pos (by omega)]; simp
      have g2 : gen (-y) (y + 1) = [-(y + 1), y, y + 1] := by unfold gen; rw [if_neg (by omega), if_neg (by omega), if_pos (by omega)]; simp
      unfold gen
      rw [if_pos p]
      split
      · subst j
        simp only [List.flatMap_cons, List.flatMap_nil, List.append_nil]
        rw [h1 y p, h1 (y + 1) (by omega), h2 y p, g1, g2]
        have e : [y + 1] ++ ([-(y + 1), y, y + 1] ++ invW [y + 1]) = [y + 1] ++ (invW [y + 1] ++ ([y] ++ ([y + 1] ++ (invW [y + 1] ++ [])))) := by simp [invW]
        rw [e]
        unfold red
        rw [fold_cancel _ _ (st := []) trivial, List.foldl_append, fold_cancel _ _ (rs_fold _ (st := []) trivial)]
        rfl
      · split
        · subst j
          simp only [List.flatMap_cons, List.flatMap_nil, List.append_nil]
          rw [h1 y p, g1]; rfl
        · simp only [List.flatMap_cons, List.flatMap_nil, List.append_nil]
          rw [h1 j hj]
          unfold gen
          rw [if_neg (by omega), if_neg (by omega), if_neg (by omega)]; rfl
    · have g1 : gen (-y) (-y) = [-y, -y + 1, y] := by unfold gen; rw [if_pos (by omega), if_pos (by omega)]; simp
      have g2 : gen (-y) (-y + 1) = [-y] := by unfold gen; rw [if_pos (by omega), if_neg (by omega), if_pos (by omega)]
      unfold gen
      rw [if_neg p]
      split
      · subst j
        simp only [List.flatMap_cons, List.flatMap_nil, List.append_nil]
        rw [h1 (-y + 1) (by omega), g2]; rfl
      · split
        · subst j
          simp only [List.flatMap_cons, List.flatMap_nil, List.append_nil]
          rw [h2 (-y + 1) (by omega), h1 (-y) (by omega), h1 (-y + 1) (by omega), g1, g2]
          have e : invW [-y] ++ ([-y, -y + 1, y] ++ [-y]) = [y] ++ (invW [y] ++ ([-y + 1] ++ ([y] ++ (invW [y] ++ [])))) := by simp [invW]
          rw [e]
          unfold red
          rw [fold_cancel _ _ (st := []) trivial, List.foldl_append, fold_cancel _ _ (rs_fold _ (st := []) trivial)]
          rfl
        · simp only [List.flatMap_cons, List.flatMap_nil, List.append_nil]
          rw [h1 j hj]
          unfold gen
          rw [if_pos (by omega), if_neg (by omega), if_neg (by omega)]; rfl
  unfold sub
  split
  · have := invW_flat (h := sub (-y)) (fun z => sub_neg (by omega) z) (gen y (-z))
    unfold sub at this
    rw [this, red_inv]
    have hk := key (-z) (by omega)
    unfold sub at hk
    rw [hk]; simp [invW]
  · have hk := key z (by omega)
    unfold sub at hk
    exact hk
theorem stp_back {n y : Int} {u : List Int} (hy : y ≠ 0 ∧ y < n ∧ -n < y) (hu : inr n u) (hr : Rd u) : stp (-y) (stp y u) = u := by
  unfold stp
  rw [← red_short, ← red_short, red_hom (fun z => sub_neg (by omega) z), List.flatMap_assoc]
  have := red_flat_congr (f := fun z => (sub y z).flatMap (sub (-y))) (g := fun z => [z]) (u := u) (fun z hz => by rw [sub_back hy.1 (hu z hz).1]; exact (red_of_rd (l := [z]) trivial).symm)
  rw [this]
  have e : u.flatMap (fun z => [z]) = u := by
    clear this hu hr
    induction u with
    | nil => rfl
    | cons z u ih => rw [List.flatMap_cons, ih]; rfl
  rw [e, red_of_rd hr]
theorem img_back {n : Int} : ∀ {a u : List Int}, brd n a → inr n u → Rd u → img (a ++ invW a) u = u
  | [], _, _, _, _ => rfl
  | y :: a, u, ha, hu, hr => by
    have hy := ha y (by simp)
    rw [invW_cons, ← List.append_assoc, img_app]
    show img [-y] (img (a ++ invW a) (stp y u)) = u
    rw [img_back (fun z hz => ha z (by simp [hz])) (inr_stp hy hu) (rd_short _)]
    exact stp_back hy hu hr
theorem brd_inv {n : Int} {w : List Int} (h : brd n w) : brd n (invW w) := by
  intro z hz
  simp only [invW, List.mem_reverse, List.mem_map] at hz
  obtain ⟨x, hx, rfl⟩ := hz
  have := h x hx
  omega
theorem img_forth {n : Int} {a u : List Int} (ha : brd n a) (hu : inr n u) (hr : Rd u) : img (invW a ++ a) u = u := by
  have := img_back (brd_inv ha) hu hr
  rwa [invW_invW] at this
theorem inr_one {n x : Int} (h : 1 ≤ x ∧ x ≤ n) : inr n [x] := fun z hz => by simp only [List.mem_singleton] at hz; subst hz; omega
theorem hom_congr {n : Int} {o p : Int → List Int} (h : ∀ x, 1 ≤ x ∧ x ≤ n → o x = p x) {u : List Int} (hu : inr n u) : u.flatMap (hom o) = u.flatMap (hom p) := by
  induction u with
  | nil => rfl
  | cons z u ih =>
    rw [List.flatMap_cons, List.flatMap_cons, ih (fun y hy => hu y (by simp [hy]))]
    have hz := hu z (by simp)
    congr 1
    unfold hom
    split
    · rw [h (-z) (by omega)]
    · split
      · rfl
      · rw [h z (by omega)]
/-- EQUAL AS MAPS: the one after the inverse of the other changes no generator. -/
theorem img_equal {n : Int} {a b : List Int} (ha : brd n a) (hb : brd n b) : (∀ x, 1 ≤ x ∧ x ≤ n → img (invW a ++ b) [x] = [x]) ↔ ∀ x, 1 ≤ x ∧ x ≤ n → prg a x = prg b x := by
  have hab : brd n (invW a ++ b) := fun z hz => by
    rcases List.mem_append.1 hz with h | h
    · exact brd_inv ha z h
    · exact hb z h
  constructor
  · intro h x hx
    have key : ∀ u, inr n u → Rd u → img (invW a ++ b) u = u := fun u hu hr => by
      rw [img_hom hab hu hr]
      have : u.flatMap (hom (prg (invW a ++ b))) = u.flatMap (hom (fun j => [j])) := hom_congr (fun j hj => by rw [← img_one hab hj, h j hj]) hu
      rw [this]
      have := img_hom (w := []) (fun _ hz => by cases hz) hu hr
      exact this.symm
    have h1 := key (img a [x]) (inr_img ha (inr_one hx)) (rd_img (u := [x]) trivial)
    rw [img_app, ← img_app a (invW a), img_back ha (inr_one hx) trivial] at h1
    rw [← img_one ha hx, ← img_one hb hx]
    exact h1.symm
  · intro h x hx
    rw [img_app]
    have hu := inr_img (brd_inv ha) (inr_one hx)
    have hr := rd_img (w := invW a) (u := [x]) trivial
    rw [img_hom hb hu hr, ← hom_congr h hu, ← img_hom ha hu hr, ← img_app]
    exact img_forth ha (inr_one hx) trivial
end Go.Proofs.Ytgjfpmjllpgadaa
