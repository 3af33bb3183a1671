/- Components of a closed braid: classes of joined points, by their least points; the same as the cycles of the permutation. Plain facts: nothing of the program is here. -/
import Derived.Test.YthacglggkgmbhaaGGroupOrbitsBT
import Derived.Test.YthacglggkgmbhaaGGroupOrbitsBM
import Derived.Test.YthacglggkgmbhaaGGroupOrbitsBF
import Derived.Test.YthacglggkgmbhaaGGroupOrbitsAW
import Derived.Test.YthacglggkgmbhaaGGroupOrbitsBD
set_option linter.unusedVariables false
set_option linter.unusedSimpArgs false
namespace Go.Proofs.Ythacglggkgmbhaa

/-- the points below k that are in the set of i -/
def clsK (r : Nat → Nat) (k i : Nat) : List Int := ((List.range k).filter fun z => decide (r z = r i)).map fun (z : Nat) => (z : Int)
/-- the first points of their sets below k -/
def fstK (r : Nat → Nat) (k : Nat) : List Nat := (List.range k).filter fun i => (List.range i).all fun j => decide (r j ≠ r i)
def parK (r : Nat → Nat) (k : Nat) : List (List Int) := (fstK r k).map (clsK r k)
theorem mem_fstK {r : Nat → Nat} {k i : Nat} : i ∈ fstK r k ↔ i < k ∧ ∀ j, j < i → r j ≠ r i := by
  simp [fstK]
theorem fstK_succ (r : Nat → Nat) (k : Nat) : fstK r (k + 1) = fstK r k ++ (if (List.range k).all fun j => decide (r j ≠ r k) then [k] else []) := by
  unfold fstK
  rw [List.range_succ, List.filter_append]
  congr 1
  rw [List.filter_cons, List.filter_nil]
theorem clsK_succ (r : Nat → Nat) (k i : Nat) : clsK r (k + 1) i = clsK r k i ++ (if r k = r i then [(k : Int)] else []) := by
  unfold clsK
  rw [List.range_succ, List.filter_append, List.map_append]
  congr 1
  by_cases h : r k = r i <;> simp [h]
theorem clsK_head {r : Nat → Nat} {k i : Nat} (h : i ∈ fstK r k) : (clsK r k i).getD 0 0 = (i : Int) ∧ 1 ≤ (clsK r k i).length := by
  induction k with
  | zero => simp [fstK] at h
  | succ k ih =>
    rw [clsK_succ]
    rw [mem_fstK] at h
    by_cases hk : i < k
    · obtain ⟨h1, h2⟩ := ih (mem_fstK.2 ⟨hk, h.2⟩)
      refine ⟨?_, by rw [List.length_append]; omega⟩
      simp only [List.getD] at h1 ⊢
      rw [List.getElem?_append_left (by omega)]
      exact h1
    · obtain rfl : i = k := by omega
      have : clsK r i i = [] := by
        unfold clsK
        rw [List.map_eq_nil_iff, List.filter_eq_nil_iff]
        intro j hj
        simpa using h.2 j (List.mem_range.1 hj)
      rw [this, if_pos rfl]
      simp
/-- there is just one first point of the set of k -/
theorem fstK_ex (r : Nat → Nat) : ∀ {k x : Nat}, x < k → ∃ i, i ∈ fstK r k ∧ r i = r x ∧ i ≤ x := by
  intro k x
  induction x using Nat.strongRecOn with
  | _ x ih =>
    intro hx
    by_cases h : ∃ j, j < x ∧ r j = r x
    · obtain ⟨j, h1, h2⟩ := h
      obtain ⟨i, h3, h4, h5⟩ := ih j h1 (by omega)
      exact ⟨i, h3, by rw [h4, h2], by omega⟩
    · exact ⟨x, mem_fstK.2 ⟨hx, fun j hj e => h ⟨j, hj, e⟩⟩, rfl, Nat.le_refl _⟩
theorem fstK_uniq {r : Nat → Nat} {k i j : Nat} (hi : i ∈ fstK r k) (hj : j ∈ fstK r k) (h : r i = r j) : i = j := by
  have h1 := mem_fstK.1 hi
  have h2 := mem_fstK.1 hj
  rcases Nat.lt_trichotomy i j with h3 | h3 | h3
  · exact absurd h (h2.2 i h3)
  · exact h3
  · exact absurd h.symm (h1.2 j h3)
theorem fstK_nodup (r : Nat → Nat) (k : Nat) : (fstK r k).Nodup := List.Pairwise.filter _ List.nodup_range
/-- the next point begins a set -/
theorem parK_new {r : Nat → Nat} {k : Nat} (h : ∀ j, j < k → r j ≠ r k) : parK r (k + 1) = parK r k ++ [[(k : Int)]] := by
  unfold parK
  rw [fstK_succ, if_pos (by rw [List.all_eq_true]; intro j hj; simpa using h j (List.mem_range.1 hj)), List.map_append]
  congr 1
  · refine List.map_congr_left (fun i hi => ?_)
    rw [clsK_succ, if_neg (fun e => h i (mem_fstK.1 hi).1 e.symm), List.append_nil]
  · rw [List.map_singleton, clsK_succ, if_pos rfl]
    have : clsK r k k = [] := by
      unfold clsK
      rw [List.map_eq_nil_iff, List.filter_eq_nil_iff]
      intro j hj
      simpa using h j (List.mem_range.1 hj)
    rw [this]; rfl
/-- the next point comes to the set at the place p -/
theorem parK_old {r : Nat → Nat} {k p : Nat} (hp : p < (fstK r k).length) (h : r ((fstK r k).getD p 0) = r k) : parK r (k + 1) = (parK r k).set p ((parK r k).getD p [] ++ [(k : Int)]) := by
  have g : (fstK r k).getD p 0 = (fstK r k)[p] := by simp [List.getD, hp]
  have hm : (fstK r k)[p] ∈ fstK r k := List.getElem_mem hp
  have hlt := (mem_fstK.1 hm).1
  rw [g] at h
  have hf : fstK r (k + 1) = fstK r k := by
    rw [fstK_succ, if_neg, List.append_nil]
    intro hc
    rw [List.all_eq_true] at hc
    have := hc _ (List.mem_range.2 hlt)
    simp at this
    exact this h
  unfold parK
  rw [hf]
  apply List.ext_getElem (by simp)
  intro q h1 h2
  have hq : q < (fstK r k).length := by simpa using h1
  rw [List.getElem_map, List.getElem_set]
  by_cases e : p = q
  · subst e
    rw [if_pos rfl, clsK_succ, if_pos h.symm]
    simp [List.getD, hp]
  · rw [if_neg e, List.getElem_map, clsK_succ, if_neg, List.append_nil]
    intro hc
    apply e
    have := fstK_uniq hm (List.getElem_mem hq) (by rw [h, hc])
    exact (List.getElem_inj (h₀ := hp) (h₁ := hq) (fstK_nodup r k)).1 this
/-- ascending lists of numbers with the same members are equal -/
theorem sorted_ext : ∀ {a b : List Int}, a.Pairwise (· < ·) → b.Pairwise (· < ·) → (∀ x, x ∈ a ↔ x ∈ b) → a = b
  | [], [], _, _, _ => rfl
  | [], y :: b, _, _, h => by have := (h y).2 (by simp); cases this
  | x :: a, [], _, _, h => by have := (h x).1 (by simp); cases this
  | x :: a, y :: b, ha, hb, h => by
    have a1 := List.pairwise_cons.1 ha
    have b1 := List.pairwise_cons.1 hb
    have e : x = y := by
      rcases List.mem_cons.1 ((h x).1 (by simp)) with e | e
      · exact e
      · rcases List.mem_cons.1 ((h y).2 (by simp)) with e2 | e2
        · exact e2.symm
        · have := a1.1 y e2; have := b1.1 x e; omega
    subst e
    congr 1
    refine sorted_ext a1.2 b1.2 (fun z => ⟨fun hz => ?_, fun hz => ?_⟩)
    · rcases List.mem_cons.1 ((h z).1 (by simp [hz])) with e | e
      · have := a1.1 z hz; omega
      · exact e
    · rcases List.mem_cons.1 ((h z).2 (by simp [hz])) with e | e
      · have := b1.1 z hz; omega
      · exact e
theorem clsK_sorted (r : Nat → Nat) (k i : Nat) : (clsK r k i).Pairwise (· < ·) := by
  unfold clsK
  rw [List.pairwise_map]
  refine List.Pairwise.imp (fun h => by omega) (List.Pairwise.filter _ (List.pairwise_lt_range (n := k)))
theorem mem_clsK {r : Nat → Nat} {k i : Nat} {x : Int} : x ∈ clsK r k i ↔ ∃ z : Nat, x = (z : Int) ∧ z < k ∧ r z = r i := by
  unfold clsK
  simp only [List.mem_map, List.mem_filter, List.mem_range, decide_eq_true_eq]
  exact ⟨fun ⟨z, ⟨h1, h2⟩, h3⟩ => ⟨z, h3.symm, h1, h2⟩, fun ⟨z, h1, h2, h3⟩ => ⟨z, ⟨h2, h3⟩, h1.symm⟩⟩
/-- the pairs of a permutation -/
def prs (f : Nat → Nat) (n : Nat) : List (Nat × Nat) := (List.range n).map fun i => (i, f i)
theorem prs_succ (f : Nat → Nat) (n : Nat) : prs f (n + 1) = prs f n ++ [(n, f n)] := by simp [prs, List.range_succ]
/-- the names of the sets of the cycles -/
def nam (f : Nat → Nat) (n : Nat) : Nat → Nat := joinA id (prs f n)
end Go.Proofs.Ythacglggkgmbhaa

/- Orbits of a group of permutations: classes of joined points, closed lists, how many elements fix a point. Plain facts: nothing of the program is here. -/
set_option linter.unusedVariables false
set_option linter.unusedSimpArgs false
namespace Go.Proofs.Ythacglggkgmbhaa

def prG (n : Nat) (gs : List Fn) : List (Nat × Nat) := gs.flatMap fun g => prs g n
/-- the names of the orbits -/
def namG (n : Nat) (gs : List Fn) : Nat → Nat := joinA id (prG n gs)
theorem mem_prs {f : Nat → Nat} {n x y : Nat} : (x, y) ∈ prs f n ↔ x < n ∧ y = f x := by
  simp only [prs, List.mem_map, List.mem_range, Prod.mk.injEq]
  exact ⟨fun ⟨i, h1, h2, h3⟩ => by subst h2; exact ⟨h1, h3.symm⟩, fun ⟨h1, h2⟩ => ⟨x, h1, rfl, h2.symm⟩⟩
theorem namG_gen {n : Nat} {gs : List Fn} {g : Fn} (hg : g ∈ gs) {x : Nat} (hx : x < n) : namG n gs (g x) = namG n gs x :=
  ((joinA_cn _ _ _).2 (.pair (List.mem_flatMap.2 ⟨g, hg, mem_prs.2 ⟨hx, rfl⟩⟩))).symm
theorem gm_nam {n : Nat} {gs : List Fn} (hg : ∀ g ∈ gs, Pe n g) {F : Fn} (h : Gm (· ∈ gs) F) {x : Nat} (hx : x < n) : namG n gs (F x) = namG n gs x := by
  induction h with
  | one => rfl
  | @mul F s h hs ih => exact (namG_gen hs ((h.pe hg).lt x hx)).trans ih
theorem nam_gm {n : Nat} (hn : n ≤ 9) {gs : List Fn} (hg : ∀ g ∈ gs, Pe n g) {x y : Nat} (h : namG n gs x = namG n gs y) : ∃ F, Gm (· ∈ gs) F ∧ F x = y := by
  have c := (joinA_cn _ _ _).1 h
  clear h
  induction c with
  | pair hp =>
    obtain ⟨g, hg', hp⟩ := List.mem_flatMap.1 hp
    obtain ⟨h1, h2⟩ := mem_prs.1 hp
    exact ⟨g, .gen hg', h2.symm⟩
  | refl x => exact ⟨id, .one, rfl⟩
  | symm _ ih =>
    obtain ⟨F, h1, h2⟩ := ih
    refine ⟨iv n F, h1.iv n, ?_⟩
    rw [← h2]
    exact congrFun (iv_l (h1.pe hg) hn) _
  | trans _ _ ih1 ih2 =>
    obtain ⟨F, h1, h2⟩ := ih1
    obtain ⟨G, h3, h4⟩ := ih2
    exact ⟨cmp F G, h1.app h3, by show G (F _) = _; rw [h2, h4]⟩
/-- a list that is closed under the generators has all points of the orbit -/
theorem orb_all {n : Nat} (hn : n ≤ 9) {gs : List Fn} (hg : ∀ g ∈ gs, Pe n g) {i : Nat} {o : List Nat} (h0 : i ∈ o) (hc : ∀ x ∈ o, ∀ g ∈ gs, g x ∈ o) {y : Nat} (h : namG n gs y = namG n gs i) : y ∈ o := by
  obtain ⟨F, h1, rfl⟩ := nam_gm hn hg h.symm
  clear h
  induction h1 with
  | one => exact h0
  | mul _ hs ih => exact hc _ ih _ hs
theorem sum_zero {α : Type} {f : α → Nat} : ∀ {L : List α}, (∀ x ∈ L, f x = 0) → (L.map f).sum = 0
  | [], _ => rfl
  | a :: L, h => by
    rw [List.map_cons, List.sum_cons, h a (by simp), sum_zero fun x hx => h x (List.mem_cons_of_mem _ hx)]
theorem sum_fibre {α : Type} (f : α → Nat) : ∀ {L : List Nat} {E : List α}, L.Nodup → (∀ x ∈ E, f x ∈ L) → (L.map fun y => (E.filter fun x => decide (f x = y)).length).sum = E.length := by
  intro L E hL
  induction E with
  | nil => intro _; exact sum_zero fun _ _ => rfl
  | cons a E ih =>
    intro h
    have e : ∀ y, ((a :: E).filter fun x => decide (f x = y)).length = (E.filter fun x => decide (f x = y)).length + if f a = y then 1 else 0 := fun y => by
      rw [List.filter_cons]; split <;> simp_all
    rw [show (fun y => ((a :: E).filter fun x => decide (f x = y)).length) = fun y => (E.filter fun x => decide (f x = y)).length + if f a = y then 1 else 0 from funext e]
    have split : ∀ (L : List Nat) (p q : Nat → Nat), (L.map fun y => p y + q y).sum = (L.map p).sum + (L.map q).sum := by
      intro L p q
      induction L with
      | nil => rfl
      | cons a L ih => simp only [List.map_cons, List.sum_cons, ih]; omega
    have one : ∀ {L : List Nat} {z : Nat}, L.Nodup → z ∈ L → (L.map fun y => if z = y then 1 else 0).sum = 1 := by
      intro L z
      induction L with
      | nil => intro _ h; cases h
      | cons b L ih =>
        intro hnd hz
        rw [List.nodup_cons] at hnd
        simp only [List.map_cons, List.sum_cons]
        by_cases c : z = b
        · subst c
          rw [if_pos rfl]
          have : (L.map fun y => if z = y then 1 else 0).sum = 0 := by
            refine sum_zero fun y hy => ?_
            rw [if_neg]
            rintro rfl
            exact hnd.1 hy
          omega
        · rw [if_neg c, ih hnd.2 ((List.mem_cons.1 hz).resolve_left c)]
    rw [split, ih (fun x hx => h x (List.mem_cons_of_mem _ hx)), one hL (h a (by simp)), List.length_cons]
/-- ORBIT AND STABILIZER -/
theorem orb_stab {n : Nat} (hn : n ≤ 9) {gs : List Fn} (hg : ∀ g ∈ gs, Pe n g) {E : List Fn} (hE : E.Nodup) (hm : ∀ p, p ∈ E ↔ Gm (· ∈ gs) p) {p : Nat} (hp : p < n) :
    ((List.range n).filter fun z => decide (namG n gs z = namG n gs p)).length * (E.filter fun F => decide (F p = p)).length = E.length := by
  have nd : ((List.range n).filter fun z => decide (namG n gs z = namG n gs p)).Nodup := List.Pairwise.filter _ List.nodup_range
  have mm : ∀ F ∈ E, F p ∈ (List.range n).filter fun z => decide (namG n gs z = namG n gs p) := fun F hF => by
    have h1 := (hm F).1 hF
    simp only [List.mem_filter, List.mem_range, decide_eq_true_eq]
    exact ⟨(h1.pe hg).lt p hp, gm_nam hg h1 hp⟩
  rw [← sum_fibre (fun F : Fn => F p) nd mm]
  have fib : ∀ y ∈ (List.range n).filter (fun z => decide (namG n gs z = namG n gs p)), (E.filter fun F => decide (F p = y)).length = (E.filter fun F => decide (F p = p)).length := by
    intro y hy
    simp only [List.mem_filter, List.mem_range, decide_eq_true_eq] at hy
    obtain ⟨U, u1, u2⟩ := nam_gm hn hg hy.2.symm
    have hU := u1.pe hg
    have e : ((E.filter fun F => decide (F p = p)).map fun F => cmp F U).length = (E.filter fun F => decide (F p = y)).length := by
      refine List.Perm.length_eq ((List.perm_ext_iff_of_nodup ?_ (List.Pairwise.filter _ hE)).2 fun F => ?_)
      · refine List.pairwise_map.2 (List.Pairwise.imp ?_ (List.Pairwise.filter _ hE))
        intro a b hab e
        apply hab
        have : cmp (cmp a U) (iv n U) = cmp (cmp b U) (iv n U) := by rw [e]
        rw [cmp_assoc, cmp_assoc, iv_l hU hn] at this
        exact this
      · simp only [List.mem_map, List.mem_filter, decide_eq_true_eq]
        constructor
        · rintro ⟨G, ⟨g1, g2⟩, rfl⟩
          refine ⟨(hm _).2 (((hm G).1 g1).app u1), ?_⟩
          show U (G p) = y
          rw [g2, u2]
        · rintro ⟨f1, f2⟩
          refine ⟨cmp F (iv n U), ⟨(hm _).2 (((hm F).1 f1).app (u1.iv n)), ?_⟩, ?_⟩
          · show iv n U (F p) = p
            rw [f2, ← u2]
            exact congrFun (iv_l hU hn) p
          · rw [cmp_assoc, iv_r hU hn]; rfl
    rw [← e, List.length_map]
  rw [List.map_congr_left fib]
  generalize (List.range n).filter (fun z => decide (namG n gs z = namG n gs p)) = L
  generalize (E.filter fun F => decide (F p = p)).length = c
  induction L with
  | nil => simp
  | cons a L ih => simp only [List.map_cons, List.sum_cons, List.length_cons, Nat.add_mul, ← ih]; omega
end Go.Proofs.Ythacglggkgmbhaa

/- slices.Repeat, as a list of the caller's own. No condition of its own. -/
set_option linter.unusedVariables false
set_option linter.unusedSimpArgs false
namespace Go.Proofs.Ythacglggkgmbhaa
open Go.RowKit

/-- a list by its elements -/
def tbl (n : Nat) (G : Nat → Int) : List Int := (List.range n).map G
@[simp] theorem tbl_length (n : Nat) (G : Nat → Int) : (tbl n G).length = n := by simp [tbl]
theorem tbl_get {n : Nat} {G : Nat → Int} {i : Nat} (h : i < n) : (tbl n G).getD i 0 = G i := by simp [tbl, List.getD, h]
/-- d, over and over, up to the length n -/
def repT (d : List Int) (n : Nat) : List Int := tbl n (fun i => d.getD (i % d.length) 0)

theorem conv_ui (n : Nat) (hn : n < 9223372036854775808) (w : World) : (convert 3 92 (.int .i64 n)).run Try.prog w = .ok (.int .u64 n) w := by
  have h1 : IntKind.u64.wrap n = n := by simp [IntKind.wrap, IntKind.signed, IntKind.bits]; omega
  simp [convert, Try.underlying92, Try.underlying3, Conv.intToInt, h1]
/-- .. so far m -/
def repP (d : List Int) (n m : Nat) : List Int := tbl n (fun i => if i < m then d.getD (i % d.length) 0 else 0)
/-- d, k times -/
def rp (d : List Int) : Nat → List Int
  | 0 => []
  | k + 1 => rp d k ++ d
end Go.Proofs.Ythacglggkgmbhaa
