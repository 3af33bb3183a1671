/-
  Plain facts on lists and numbers that the walks use; nothing of the program is here.
-/
import Derived.Calls
set_option linter.unusedVariables false
set_option linter.unusedSimpArgs false
namespace Go.Proofs.Ytpmdhkiolgpiaaa

/-- The first value of f below n that is not 0, else 0. -/
def firstNZ (f : Nat → Int) : Nat → Int
  | 0 => 0
  | n + 1 => if firstNZ f n = 0 then f n else firstNZ f n

theorem getD_lt {α : Type} {xs : List α} {k : Nat} (d : α) (h : k < xs.length) : xs.getD k d = xs[k] := by
  simp [List.getD, List.getElem?_eq_getElem h]

end Go.Proofs.Ytpmdhkiolgpiaaa

/- Sets that are joined: each point leads to the name of its set. Plain facts: nothing of the program is here. -/
set_option linter.unusedVariables false
set_option linter.unusedSimpArgs false
namespace Go.Proofs.Ytpmdhkiolgpiaaa

/-- from x one comes to r in k steps, and r leads to itself -/
inductive RN (j : List Int) : Nat → Nat → Nat → Prop
  | root {x : Nat} : j.getD x 0 = (x : Int) → RN j x x 0
  | step {x y r k : Nat} : j.getD x 0 = (y : Int) → y ≠ x → RN j y r k → RN j x r (k + 1)
theorem RN.isRoot {j : List Int} {x r k : Nat} (h : RN j x r k) : j.getD r 0 = (r : Int) := by
  induction h with
  | root h => exact h
  | step _ _ _ ih => exact ih
theorem RN.uniq {j : List Int} {x r k r' k' : Nat} (h : RN j x r k) (h' : RN j x r' k') : r = r' := by
  induction h generalizing r' k' with
  | root h =>
    cases h' with
    | root _ => rfl
    | step h1 h2 _ => rw [h] at h1; omega
  | step h1 h2 _ ih =>
    cases h' with
    | root h => rw [h] at h1; omega
    | step h3 _ h4 => rw [h1] at h3; obtain rfl := Int.ofNat.inj h3; exact ih h4
/-- the sets of n points: the name of the set of x is r x -/
structure Uf (j : List Int) (n : Nat) (r : Nat → Nat) : Prop where
  len : j.length = n
  inn : ∀ x, x < n → ∃ y : Nat, j.getD x 0 = (y : Int) ∧ y < n
  rt : ∀ x, x < n → r x < n ∧ ∃ k, RN j x (r x) k
theorem Uf.next {j : List Int} {n : Nat} {r : Nat → Nat} (h : Uf j n r) {x : Nat} (hx : x < n) : ∃ y : Nat, j.getD x 0 = (y : Int) ∧ y < n ∧ r y = r x := by
  obtain ⟨y, e, hy⟩ := h.inn x hx
  refine ⟨y, e, hy, ?_⟩
  obtain ⟨_, k, h2⟩ := h.rt x hx
  obtain ⟨_, k', h3⟩ := h.rt y hy
  by_cases c : y = x
  · rw [c]
  · exact (RN.step e c h3).uniq h2
theorem uf_start (n : Nat) : Uf ((List.range n).map fun (i : Nat) => (i : Int)) n id := by
  have g : ∀ x, x < n → ((List.range n).map fun (i : Nat) => (i : Int)).getD x 0 = (x : Int) := fun x hx => by simp [List.getD, hx]
  exact ⟨by simp, fun x hx => ⟨x, g x hx, hx⟩, fun x hx => ⟨hx, 0, .root (g x hx)⟩⟩
/-- the names when x and y are joined -/
def joinR (r : Nat → Nat) (x y : Nat) : Nat → Nat := fun z => if r z = r x then r y else r z
theorem Uf.root_fix {j : List Int} {n : Nat} {r : Nat → Nat} (h : Uf j n r) {x : Nat} (hx : x < n) : j.getD (r x) 0 = (r x : Int) := by
  obtain ⟨_, k, h2⟩ := h.rt x hx
  exact h2.isRoot
theorem Uf.join {j : List Int} {n : Nat} {r : Nat → Nat} (h : Uf j n r) {x y : Nat} (hx : x < n) (hy : y < n) : Uf (j.set (r x) (r y : Int)) n (joinR r x y) := by
  have hl := h.len
  have hrx := (h.rt x hx).1
  have hry := (h.rt y hy).1
  have g : ∀ z, (j.set (r x) (r y : Int)).getD z 0 = if z = r x then (r y : Int) else j.getD z 0 := fun z => by
    simp only [List.getD, List.getElem?_set]
    by_cases e : r x = z
    · subst e; simp [hl, hrx]
    · simp [e, show z ≠ r x from fun e2 => e e2.symm]
  refine ⟨by simp [hl], fun z hz => ?_, fun z hz => ?_⟩
  · rw [g]
    split
    · exact ⟨r y, rfl, hry⟩
    · exact h.inn z hz
  have hrz := (h.rt z hz).1
  unfold joinR
  refine ⟨by split <;> assumption, ?_⟩
  have hroot : ∃ k, RN (j.set (r x) (r y : Int)) (r x) (r y) k := by
    by_cases e : r y = r x
    · rw [e]; exact ⟨0, .root (by have := g (r x); rw [if_pos rfl, e] at this; exact this)⟩
    · exact ⟨1, .step (by rw [g, if_pos rfl]) e (.root (by rw [g, if_neg e]; exact h.root_fix hy))⟩
  obtain ⟨_, k, hk⟩ := h.rt z hz
  have key : ∀ {z q k : Nat}, RN j z q k → ∃ k', RN (j.set (r x) (r y : Int)) z (if q = r x then r y else q) k' := by
    intro z q k hk
    induction hk with
    | root h1 =>
      rename_i z
      by_cases e : z = r x
      · rw [if_pos e, e]; exact hroot
      · rw [if_neg e]; exact ⟨0, .root (by rw [g, if_neg e]; exact h1)⟩
    | step h1 h2 h3 ih =>
      rename_i z y' q k
      obtain ⟨k', ih⟩ := ih
      by_cases e : z = r x
      · exfalso
        have := h.root_fix hx
        rw [← e, h1] at this
        exact h2 (Int.ofNat.inj this)
      · exact ⟨k' + 1, .step (by rw [g, if_neg e]; exact h1) h2 ih⟩
  exact key hk
/-- the names when all pairs are joined -/
def joinA (r : Nat → Nat) : List (Nat × Nat) → Nat → Nat
  | [] => r
  | p :: ps => joinA (joinR r p.1 p.2) ps
theorem joinA_snoc (p : Nat × Nat) : ∀ (ps : List (Nat × Nat)) (r : Nat → Nat), joinA r (ps ++ [p]) = joinR (joinA r ps) p.1 p.2
  | [], _ => rfl
  | q :: ps, r => joinA_snoc p ps _
/-- joined by way of pairs -/
inductive Cn (ps : List (Nat × Nat)) : Nat → Nat → Prop
  | pair {x y : Nat} : (x, y) ∈ ps → Cn ps x y
  | refl (x : Nat) : Cn ps x x
  | symm {x y : Nat} : Cn ps x y → Cn ps y x
  | trans {x y z : Nat} : Cn ps x y → Cn ps y z → Cn ps x z
theorem Cn.mono {ps qs : List (Nat × Nat)} (h : ∀ p ∈ ps, p ∈ qs) {x y : Nat} (c : Cn ps x y) : Cn qs x y := by
  induction c with
  | pair hp => exact .pair (h _ hp)
  | refl x => exact .refl x
  | symm _ ih => exact ih.symm
  | trans _ _ ih1 ih2 => exact ih1.trans ih2
/-- THE NAMES ARE EQUAL EXACTLY WHERE THE POINTS ARE JOINED -/
theorem joinA_cn (ps : List (Nat × Nat)) : ∀ x y, joinA id ps x = joinA id ps y ↔ Cn ps x y := by
  obtain ⟨qs, rfl⟩ : ∃ qs, ps = qs.reverse := ⟨ps.reverse, by simp⟩
  induction qs with
  | nil =>
    intro x y
    constructor
    · intro h
      have : x = y := h
      subst this
      exact .refl x
    · intro h
      show x = y
      induction h with
      | pair hp => cases hp
      | refl x => rfl
      | symm _ ih => exact ih.symm
      | trans _ _ ih1 ih2 => exact ih1.trans ih2
  | cons p qs ih =>
    have e1 : ∀ z, joinA id (p :: qs).reverse z = joinR (joinA id qs.reverse) p.1 p.2 z := fun z => by rw [List.reverse_cons, joinA_snoc]
    have up : ∀ {x y}, Cn qs.reverse x y → Cn (p :: qs).reverse x y := fun h => h.mono (fun q hq => by rw [List.reverse_cons]; exact List.mem_append_left _ hq)
    have hp : Cn (p :: qs).reverse p.1 p.2 := .pair (by simp)
    intro x y
    rw [e1, e1]
    constructor
    · intro h
      unfold joinR at h
      split at h <;> split at h
      · rename_i a b; exact (up ((ih _ _).1 a)).trans (up ((ih _ _).1 b)).symm
      · rename_i a b; exact ((up ((ih _ _).1 a)).trans hp).trans (up ((ih _ _).1 h))
      · rename_i a b; exact (up ((ih _ _).1 h)).trans (((up ((ih _ _).1 b)).trans hp).symm)
      · exact up ((ih _ _).1 h)
    · intro h
      induction h with
      | pair hm =>
        rw [List.reverse_cons, List.mem_append, List.mem_singleton] at hm
        rcases hm with hm | hm
        · have := (ih _ _).2 (.pair hm)
          unfold joinR; rw [this]
        · subst hm
          unfold joinR
          simp
      | refl x => rfl
      | symm _ ih => exact ih.symm
      | trans _ _ ih1 ih2 => exact ih1.trans ih2
end Go.Proofs.Ytpmdhkiolgpiaaa
