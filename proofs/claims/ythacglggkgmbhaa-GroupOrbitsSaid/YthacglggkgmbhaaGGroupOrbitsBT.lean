/- The laws GroupOrders and GroupFactors hold for all numbers and lists. No condition of its own. -/
import Derived.Test.YthacglggkgmbhaaGGroupOrbitsBS
import Derived.Test.YthacglggkgmbhaaGGroupOrbitsAU
import Derived.Test.YthacglggkgmbhaaGGroupOrbitsAV
import Derived.Test.YthacglggkgmbhaaGGroupOrbitsAX
import Derived.Test.YthacglggkgmbhaaGGroupOrbitsAY
import Derived.Test.YthacglggkgmbhaaGGroupOrbitsAS
import Derived.Test.YthacglggkgmbhaaGGroupOrbitsAZ
set_option linter.unusedVariables false
set_option linter.unusedSimpArgs false
namespace Go.Proofs.Ythacglggkgmbhaa
open Go.RowKit

end Go.Proofs.Ythacglggkgmbhaa

/- permgroup.orbits: its closures. No condition of its own. -/
set_option linter.unusedVariables false
set_option linter.unusedSimpArgs false
namespace Go.Proofs.Ythacglggkgmbhaa
open Go.RowKit

theorem contains_b {xs : List Int} {x : Int} (b : Bool) (hx : xs.length ≤ 1000000) : SC Try.prog 39 [LF b xs, pint x] (.sc (.bool (decide (x ∈ xs)))) :=
  SC.weak (contains_x hx) (by simp only [List.map_cons, List.map_nil, LF_nrm]; rfl)
/-- the first row that has x -/
theorem anyrow_s {c : Bool} {ms : List (List Int)} {x : Int} {f : FuncId} {b : Bool} (hx : ms.length ≤ 1000000) (hl : ∀ l ∈ ms, l.length ≤ 1000000) (hf : ∀ l : List Int, l.length ≤ 1000000 → SC Try.prog f [LF c l, .lptr [pint x]] (.sc (.bool (decide (x ∈ l))))) :
    ∃ z : Int, SC Try.prog 20 [.lst b 1 ms.length (ms.map (LF c)), .clo f [.lptr [pint x]]] (pint z) ∧ ((z = -1 ∧ ∀ l ∈ ms, x ∉ l) ∨ ∃ m : Nat, m < ms.length ∧ z = (m : Int) ∧ x ∈ ms.getD m [] ∧ ∀ k, k < m → x ∉ ms.getD k []) := by
  have hg : ∀ k, k < ms.length → ms.getD k [] ∈ ms := fun k hk => mem_getD hk []
  by_cases h : ∃ m, m < ms.length ∧ x ∈ ms.getD m []
  · obtain ⟨m, h1, h2, h3⟩ : ∃ m, m < ms.length ∧ x ∈ ms.getD m [] ∧ ∀ k, k < m → x ∉ ms.getD k [] := by
      obtain ⟨m, h1, h2⟩ := h
      induction m using Nat.strongRecOn with
      | _ m ih =>
        by_cases c : ∃ k, k < m ∧ x ∈ ms.getD k []
        · obtain ⟨k, c1, c2⟩ := c
          exact ih k c1 (by omega) c2
        · exact ⟨m, h1, h2, fun k hk hc => c ⟨k, hk, hc⟩⟩
    refine ⟨(m : Int), indexFuncL_some (F := LF c) hx (LF_cl c) rfl h1 (fun k hk => ?_) ?_, .inr ⟨m, h1, rfl, h2, h3⟩⟩
    · have := hf _ (hl _ (hg k (by omega)))
      rwa [decide_eq_false (h3 k hk)] at this
    · have := hf _ (hl _ (hg m h1))
      rwa [decide_eq_true h2] at this
  · refine ⟨-1, indexFuncL_none (F := LF c) hx (LF_cl c) rfl (fun k hk => ?_), .inl ⟨rfl, fun l hl' hc => ?_⟩⟩
    · have := hf _ (hl _ (hg k hk))
      rwa [decide_eq_false (fun hc => h ⟨k, hk, hc⟩)] at this
    · obtain ⟨k, hk, rfl⟩ := List.getElem_of_mem hl'
      exact h ⟨k, hk, by rw [getD_lt [] hk]; exact hc⟩
set_option maxHeartbeats 4000000 in
set_option maxRecDepth 100000 in
theorem hasrow_s {c : Bool} {ms : List (List Int)} {x : Int} {f : FuncId} {b : Bool} (hx : ms.length ≤ 1000000) (hl : ∀ l ∈ ms, l.length ≤ 1000000) (hf : ∀ l : List Int, l.length ≤ 1000000 → SC Try.prog f [LF c l, .lptr [pint x]] (.sc (.bool (decide (x ∈ l))))) :
    SC Try.prog 51 [.lst b 1 ms.length (ms.map (LF c)), .clo f [.lptr [pint x]]] (.sc (.bool (decide (∃ l ∈ ms, x ∈ l)))) := by
  obtain ⟨z, k, hz⟩ := anyrow_s (b := b) hx hl hf
  have e : decide (∃ l ∈ ms, x ∈ l) = decide ((0 : Int) ≤ z) := by
    apply decide_eq_decide.2
    rcases hz with ⟨rfl, h⟩ | ⟨m, h1, rfl, h2, _⟩
    · exact ⟨fun ⟨l, h1, h2⟩ => absurd h2 (h l h1), fun h => by omega⟩
    · exact ⟨fun _ => by omega, fun _ => ⟨_, mem_getD h1 [], h2⟩⟩
  rw [e]
  refine SC.go {} tok mixed Try.func51 rfl rfl Try.ntmps51 rfl rfl (by kernel_rfl) ?_
  first | simp only [updS] | simp only [updL, Nat.reduceAdd]
  repeat (first | refine S0 ?_ | refine S1 ?_ | refine S2 ?_ | refine S7 ?_ | refine S8 ?_ | refine S19 ?_ | refine S20 ?_ | refine S26 ?_ | refine S32 ?_ | refine S46 ?_ | refine S56 ?_ | refine S73 ?_)
  refine Scall (args := [.lst b 1 ms.length (ms.map (LF c)), .clo f [.lptr [pint x]]]) k ?_ (hc := by simp only [PV.cl.clL, PV.cl, LFs_cl]; rfl)
  repeat (first | refine S0 ?_ | refine S1 ?_ | refine S2 ?_ | refine S7 ?_ | refine S8 ?_ | refine S19 ?_ | refine S20 ?_ | refine S26 ?_ | refine S32 ?_ | refine S46 ?_ | refine S56 ?_ | refine S73 ?_)
  exact ⟨.inr rfl, .cl rfl⟩
set_option maxHeartbeats 4000000 in
set_option maxRecDepth 100000 in
theorem orbits11_s (b : Bool) (x : Int) (l : List Int) (hl : l.length ≤ 1000000) : SC Try.prog 52 [LF b l, .lptr [pint x]] (.sc (.bool (decide (x ∈ l)))) := by
  have k := contains_b (xs := l) (x := x) b hl
  refine SC.go {} tok mixed Try.func52 rfl rfl Try.ntmps52 rfl rfl (by kernel_rfl) ?_
  first | simp only [updS] | simp only [updL, Nat.reduceAdd]
  repeat (first | refine S0 ?_ | refine S1 ?_ | refine S2 ?_ | refine S7 ?_ | refine S8 ?_ | refine S19 ?_ | refine S20 ?_ | refine S26 ?_ | refine S32 ?_ | refine S46 ?_ | refine S56 ?_ | refine S73 ?_)
  refine Scall (args := [LF b l, pint x]) k ?_ (hc := by simp only [PV.cl.clL, LF_cl]; rfl)
  repeat (first | refine S0 ?_ | refine S1 ?_ | refine S2 ?_ | refine S7 ?_ | refine S8 ?_ | refine S19 ?_ | refine S20 ?_ | refine S26 ?_ | refine S32 ?_ | refine S46 ?_ | refine S56 ?_ | refine S73 ?_)
  exact ⟨.inr rfl, .cl rfl⟩
set_option maxHeartbeats 4000000 in
set_option maxRecDepth 100000 in
theorem stabo1_s (b : Bool) (x : Int) (l : List Int) (hl : l.length ≤ 1000000) : SC Try.prog 38 [LF b l, .lptr [pint x]] (.sc (.bool (decide (x ∈ l)))) := by
  have k := contains_b (xs := l) (x := x) b hl
  refine SC.go {} tok mixed Try.func38 rfl rfl Try.ntmps38 rfl rfl (by kernel_rfl) ?_
  first | simp only [updS] | simp only [updL, Nat.reduceAdd]
  repeat (first | refine S0 ?_ | refine S1 ?_ | refine S2 ?_ | refine S7 ?_ | refine S8 ?_ | refine S19 ?_ | refine S20 ?_ | refine S26 ?_ | refine S32 ?_ | refine S46 ?_ | refine S56 ?_ | refine S73 ?_)
  refine Scall (args := [LF b l, pint x]) k ?_ (hc := by simp only [PV.cl.clL, LF_cl]; rfl)
  repeat (first | refine S0 ?_ | refine S1 ?_ | refine S2 ?_ | refine S7 ?_ | refine S8 ?_ | refine S19 ?_ | refine S20 ?_ | refine S26 ?_ | refine S32 ?_ | refine S46 ?_ | refine S56 ?_ | refine S73 ?_)
  exact ⟨.inr rfl, .cl rfl⟩
theorem bwF {F : List Int → PV} {ls : List (List Int)} {h : HP} {tk m : Nat} (hm : m = ls.length) (hb : h.blk tk = some (ls.map F)) : bw h (.ref tk 0 1 m) = .lst false 1 ls.length (ls.map F) := by
  subst hm; exact bwL hb
set_option maxHeartbeats 4000000 in
set_option maxRecDepth 100000 in
theorem orbits1_e {c : Bool} {ms : List (List Int)} {x : Int} {v T m : Nat} (hx : ms.length ≤ 1000000) (hl : ∀ l ∈ ms, l.length ≤ 1000000) {h : HP} (hm : m = ms.length) (hv : h.blk v = some [.ref T 0 1 m]) (hT : h.blk T = some (ms.map (LF c))) :
    SChE Try.prog 50 [pint x, .ptr v 0] h (fun r h' => r = .sc (.bool (decide (∃ l ∈ ms, x ∈ l))) ∧ Fr [] h h') := by
  have k := hasrow_s (b := false) hx hl (orbits11_s c x)
  refine SChE.go {} tok mixed Try.func50 rfl rfl Try.ntmps50 rfl rfl (by kernel_rfl) (fun hw => ?_)
  first | simp only [updS] | simp only [updL, Nat.reduceAdd]
  have hvl := hw.lt hv
  have hTl := hw.lt hT
  repeat (first | refine S0 ?_ | refine S1 ?_ | refine S2 ?_ | refine S7 ?_ | refine S8 ?_ | refine S19 ?_ | refine S20 ?_ | refine S26 ?_ | refine S32 ?_ | refine S46 ?_ | refine S56 ?_ | refine S73 ?_)
  refine Scallb (args := [.lst false 1 ms.length (ms.map (LF c)), .clo 52 [.lptr [pint x]]]) k ?_ (ha := by simp only [evA, upd, Nat.reduceEqDiff, ↓reduceIte, List.map_cons, List.map_nil]; rw [bwF hm hT]; rfl) (hc := by simp only [PV.cl.clL, PV.cl, LFs_cl]; rfl)
  repeat (first | refine S0 ?_ | refine S1 ?_ | refine S2 ?_ | refine S7 ?_ | refine S8 ?_ | refine S19 ?_ | refine S20 ?_ | refine S26 ?_ | refine S32 ?_ | refine S46 ?_ | refine S56 ?_ | refine S73 ?_)
  exact ⟨.inr rfl, _, ⟨_, rfl, rfl⟩, rfl, Fr.refl _ _⟩
end Go.Proofs.Ythacglggkgmbhaa

/- Sets that are joined: each point leads to the name of its set. Plain facts: nothing of the program is here. -/
set_option linter.unusedVariables false
set_option linter.unusedSimpArgs false
namespace Go.Proofs.Ythacglggkgmbhaa

/-- from x one comes to r in k steps, and r leads to itself -/
inductive RN (j : List Int) : Nat → Nat → Nat → Prop
  | root {x : Nat} : j.getD x 0 = (x : Int) → RN j x x 0
  | step {x y r k : Nat} : j.getD x 0 = (y : Int) → y ≠ x → RN j y r k → RN j x r (k + 1)
theorem RN.isRoot {j : List Int} {x r k : Nat} (h : RN j x r k) : j.getD r 0 = (r : Int) := by
  induction h with
  | root h => exact h
  | step _ _ _ ih => exact ih
theorem RN.uniq {j : List Int} {x r k r' k' : Nat} (h : RN j x r k) (h' : RN j x r' k') : r = r' := by
  induction h generalizing r' k' with
  | root h =>
    cases h' with
    | root _ => rfl
    | step h1 h2 _ => rw [h] at h1; omega
  | step h1 h2 _ ih =>
    cases h' with
    | root h => rw [h] at h1; omega
    | step h3 _ h4 => rw [h1] at h3; obtain rfl := Int.ofNat.inj h3; exact ih h4
/-- the sets of n points: the name of the set of x is r x -/
structure Uf (j : List Int) (n : Nat) (r : Nat → Nat) : Prop where
  len : j.length = n
  inn : ∀ x, x < n → ∃ y : Nat, j.getD x 0 = (y : Int) ∧ y < n
  rt : ∀ x, x < n → r x < n ∧ ∃ k, RN j x (r x) k
theorem Uf.next {j : List Int} {n : Nat} {r : Nat → Nat} (h : Uf j n r) {x : Nat} (hx : x < n) : ∃ y : Nat, j.getD x 0 = (y : Int) ∧ y < n ∧ r y = r x := by
  obtain ⟨y, e, hy⟩ := h.inn x hx
  refine ⟨y, e, hy, ?_⟩
  obtain ⟨_, k, h2⟩ := h.rt x hx
  obtain ⟨_, k', h3⟩ := h.rt y hy
  by_cases c : y = x
  · rw [c]
  · exact (RN.step e c h3).uniq h2
theorem uf_start (n : Nat) : Uf ((List.range n).map fun (i : Nat) => (i : Int)) n id := by
  have g : ∀ x, x < n → ((List.range n).map fun (i : Nat) => (i : Int)).getD x 0 = (x : Int) := fun x hx => by simp [List.getD, hx]
  exact ⟨by simp, fun x hx => ⟨x, g x hx, hx⟩, fun x hx => ⟨hx, 0, .root (g x hx)⟩⟩
/-- the names when x and y are joined -/
def joinR (r : Nat → Nat) (x y : Nat) : Nat → Nat := fun z => if r z = r x then r y else r z
theorem Uf.root_fix {j : List Int} {n : Nat} {r : Nat → Nat} (h : Uf j n r) {x : Nat} (hx : x < n) : j.getD (r x) 0 = (r x : Int) := by
  obtain ⟨_, k, h2⟩ := h.rt x hx
  exact h2.isRoot
theorem Uf.join {j : List Int} {n : Nat} {r : Nat → Nat} (h : Uf j n r) {x y : Nat} (hx : x < n) (hy : y < n) : Uf (j.set (r x) (r y : Int)) n (joinR r x y) := by
  have hl := h.len
  have hrx := (h.rt x hx).1
  have hry := (h.rt y hy).1
  have g : ∀ z, (j.set (r x) (r y : Int)).getD z 0 = if z = r x then (r y : Int) else j.getD z 0 := fun z => by
    simp only [List.getD, List.getElem?_set]
    by_cases e : r x = z
    · subst e; simp [hl, hrx]
    · simp [e, show z ≠ r x from fun e2 => e e2.symm]
  refine ⟨by simp [hl], fun z hz => ?_, fun z hz => ?_⟩
  · rw [g]
    split
    · exact ⟨r y, rfl, hry⟩
    · exact h.inn z hz
  have hrz := (h.rt z hz).1
  unfold joinR
  refine ⟨by split <;> assumption, ?_⟩
  have hroot : ∃ k, RN (j.set (r x) (r y : Int)) (r x) (r y) k := by
    by_cases e : r y = r x
    · rw [e]; exact ⟨0, .root (by have := g (r x); rw [if_pos rfl, e] at this; exact this)⟩
    · exact ⟨1, .step (by rw [g, if_pos rfl]) e (.root (by rw [g, if_neg e]; exact h.root_fix hy))⟩
  obtain ⟨_, k, hk⟩ := h.rt z hz
  have key : ∀ {z q k : Nat}, RN j z q k → ∃ k', RN (j.set (r x) (r y : Int)) z (if q = r x then r y else q) k' := by
    intro z q k hk
    induction hk with
    | root h1 =>
      rename_i z
      by_cases e : z = r x
      · rw [if_pos e, e]; exact hroot
      · rw [if_neg e]; exact ⟨0, .root (by rw [g, if_neg e]; exact h1)⟩
    | step h1 h2 h3 ih =>
      rename_i z y' q k
      obtain ⟨k', ih⟩ := ih
      by_cases e : z = r x
      · exfalso
        have := h.root_fix hx
        rw [← e, h1] at this
        exact h2 (Int.ofNat.inj this)
      · exact ⟨k' + 1, .step (by rw [g, if_neg e]; exact h1) h2 ih⟩
  exact key hk
/-- the names when all pairs are joined -/
def joinA (r : Nat → Nat) : List (Nat × Nat) → Nat → Nat
  | [] => r
  | p :: ps => joinA (joinR r p.1 p.2) ps
theorem joinA_snoc (p : Nat × Nat) : ∀ (ps : List (Nat × Nat)) (r : Nat → Nat), joinA r (ps ++ [p]) = joinR (joinA r ps) p.1 p.2
  | [], _ => rfl
  | q :: ps, r => joinA_snoc p ps _
/-- joined by way of pairs -/
inductive Cn (ps : List (Nat × Nat)) : Nat → Nat → Prop
  | pair {x y : Nat} : (x, y) ∈ ps → Cn ps x y
  | refl (x : Nat) : Cn ps x x
  | symm {x y : Nat} : Cn ps x y → Cn ps y x
  | trans {x y z : Nat} : Cn ps x y → Cn ps y z → Cn ps x z
theorem Cn.mono {ps qs : List (Nat × Nat)} (h : ∀ p ∈ ps, p ∈ qs) {x y : Nat} (c : Cn ps x y) : Cn qs x y := by
  induction c with
  | pair hp => exact .pair (h _ hp)
  | refl x => exact .refl x
  | symm _ ih => exact ih.symm
  | trans _ _ ih1 ih2 => exact ih1.trans ih2
/-- THE NAMES ARE EQUAL EXACTLY WHERE THE POINTS ARE JOINED -/
theorem joinA_cn (ps : List (Nat × Nat)) : ∀ x y, joinA id ps x = joinA id ps y ↔ Cn ps x y := by
  obtain ⟨qs, rfl⟩ : ∃ qs, ps = qs.reverse := ⟨ps.reverse, by simp⟩
  induction qs with
  | nil =>
    intro x y
    constructor
    · intro h
      have : x = y := h
      subst this
      exact .refl x
    · intro h
      show x = y
      induction h with
      | pair hp => cases hp
      | refl x => rfl
      | symm _ ih => exact ih.symm
      | trans _ _ ih1 ih2 => exact ih1.trans ih2
  | cons p qs ih =>
    have e1 : ∀ z, joinA id (p :: qs).reverse z = joinR (joinA id qs.reverse) p.1 p.2 z := fun z => by rw [List.reverse_cons, joinA_snoc]
    have up : ∀ {x y}, Cn qs.reverse x y → Cn (p :: qs).reverse x y := fun h => h.mono (fun q hq => by rw [List.reverse_cons]; exact List.mem_append_left _ hq)
    have hp : Cn (p :: qs).reverse p.1 p.2 := .pair (by simp)
    intro x y
    rw [e1, e1]
    constructor
    · intro h
      unfold joinR at h
      split at h <;> split at h
      · rename_i a b; exact (up ((ih _ _).1 a)).trans (up ((ih _ _).1 b)).symm
      · rename_i a b; exact ((up ((ih _ _).1 a)).trans hp).trans (up ((ih _ _).1 h))
      · rename_i a b; exact (up ((ih _ _).1 h)).trans (((up ((ih _ _).1 b)).trans hp).symm)
      · exact up ((ih _ _).1 h)
    · intro h
      induction h with
      | pair hm =>
        rw [List.reverse_cons, List.mem_append, List.mem_singleton] at hm
        rcases hm with hm | hm
        · have := (ih _ _).2 (.pair hm)
          unfold joinR; rw [this]
        · subst hm
          unfold joinR
          simp
      | refl x => rfl
      | symm _ ih => exact ih.symm
      | trans _ _ ih1 ih2 => exact ih1.trans ih2
end Go.Proofs.Ythacglggkgmbhaa

/-
  The cycles of a permutation as orbits of their least points; the order as the least power. Plain facts: nothing of the program is here.
-/
set_option linter.unusedVariables false
set_option linter.unusedSimpArgs false
namespace Go.Proofs.Ythacglggkgmbhaa

/-- the length of the orbit -/
noncomputable def per (f : Nat → Nat) (i : Nat) : Nat := @dite _ (∃ L, (1 ≤ L ∧ itr f L i = i) ∧ ∀ k, (1 ≤ k ∧ itr f k i = i) → L ≤ k) (Classical.propDecidable _) (fun h => Classical.choose h) (fun _ => 0)
/-- the orbit, from i on -/
def orbL (f : Nat → Nat) (i L : Nat) : List Int := (List.range L).map fun j => (itr f j i : Int)
@[simp] theorem orbL_len (f : Nat → Nat) (i L : Nat) : (orbL f i L).length = L := by simp [orbL]
theorem orbL_get {f : Nat → Nat} {i L j : Nat} (h : j < L) : (orbL f i L).getD j 0 = (itr f j i : Int) := by simp [orbL, List.getD, h]
noncomputable def rnd (f : Nat → Nat) : Nat → List (List Int)
  | 0 => []
  | k + 1 => rnd f k ++ (if mn f k then [orbL f k (per f k)] else [])
theorem list_eq_getD {a b : List Int} (hl : a.length = b.length) (h : ∀ j, j < a.length → a.getD j 0 = b.getD j 0) : a = b := by
  apply List.ext_getElem hl
  intro j h1 h2
  have := h j h1
  rwa [getD_lt 0 h1, getD_lt 0 h2] at this
/-- what Rounds makes: the orbits of least points that have two points at least -/
noncomputable def rnd2 (f : Nat → Nat) : Nat → List (List Int)
  | 0 => []
  | k + 1 => rnd2 f k ++ (if 1 < per f k ∧ mn f k then [orbL f k (per f k)] else [])
end Go.Proofs.Ythacglggkgmbhaa
