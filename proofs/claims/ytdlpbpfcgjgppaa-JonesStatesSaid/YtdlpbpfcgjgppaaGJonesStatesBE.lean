/- Facts and contracts that the claim uses. No condition of its own. -/
import Derived.Test.YtdlpbpfcgjgppaaGJonesStatesAU
import Derived.Laws.Slices
import Derived.Test.YtdlpbpfcgjgppaaGJonesStatesAY
import Derived.Test.YtdlpbpfcgjgppaaGJonesStatesAT
import Derived.Test.YtdlpbpfcgjgppaaGJonesStatesBC
import Derived.Test.YtdlpbpfcgjgppaaGJonesStatesBA
import Derived.Test.YtdlpbpfcgjgppaaGJonesStatesAA
set_option linter.unusedVariables false
set_option linter.unusedSimpArgs false
namespace Go.Proofs.Ytdlpbpfcgjgppaa
open Go.RowKit
section
variable {P : Program} {T : TypeId → TI} {M : Hn} {cl : Oper → Cls} {ops : Array Oper} {l : List Oper} {t : Nat → PV} {h : HP} {K : AS → Prop} {d : Nat} {ty : TypeId} {pos : String} {aft : Array Edge}
theorem addr_add0 (b k n : Nat) : (if n = 0 then (Addr.mk b k none) else (Addr.mk b k none).add 0) = ⟨b, k, none⟩ := by
  split
  · rfl
  · simp [Addr.add]
theorem AW.slArr {tt : TypeId} {x : Operand} {len el tot tk : Nat} {zc : List Value} {cs : List PV} (h0 : cl = (fun _ => Cls.wr)) (hx : evA t x = .ptr tk 0) (ht : T tt = .ar len el 1 tot zc) (hb : h.blk tk = some cs) (hl : cs.length = len) (hp : 0 < len) (hm : len ≤ 1000000)
    (hk : AW P T M cl ops l ⟨upd t d (.ref tk 0 1 len), h⟩ K) : AW P T M cl ops (⟨some d, .slice tt x none none none, ty, pos, aft, none⟩ :: l) ⟨t, h⟩ K :=
  ⟨.inr ⟨h0, .inl rfl, (fun _ hh => by cases hh), fun hT => by
    intro w0 Z0 ρ w a Kw Q H he hK
    have e1 := he x
    have hT1 := hT tt
    rw [ht] at hT1
    obtain ⟨_, _, hA, _⟩ := hT1
    rw [hx] at e1
    obtain ⟨b, k, hev, r1⟩ := e1.ptr_inv
    rcases H.live tk cs hb with ⟨_, k1⟩ | ⟨b', o', arr, T', k1, k2, k3, k4, k5⟩
    · rw [r1] at k1; cases k1
    rw [r1] at k1; cases k1
    obtain ⟨i, g1, g2⟩ := hA.info
    have q1 : P.arrayLen tt = len := by simp [Program.arrayLen, hA.und]
    have q2 : P.elem tt = el := by simp [Program.elem, hA.und]
    have hu : P.underlying tt = some (.array (P.arrayLen tt) (P.elem tt)) := by rw [q1, q2]; exact hA.und
    have hs : (sizeOf (P.elem tt)).run P w = .ok 1 w := by rw [q2]; simp [sizeOf, typeInfo, g1, g2]
    refine wp_val (u := .slice (some ⟨b, k, none⟩) len len) (w' := w) ?_ (hK _ h _ w ρ hk.out H (.ref _ _ _ _ _ _ (Nat.le_refl _) (by unfold maxLen; omega) (fun _ => ⟨b, k, arr, T', r1, rfl, k3, by omega⟩)) (fun _ _ h => h))
    have hrun := run_sliceAt_array_all w tt ⟨b, k, none⟩ hu
    rw [hs] at hrun
    rw [Nat.add_zero] at hev
    simp only [execOp, hev, Sem.run_bind, Option.map_none, hrun, Result.andThen_ok, Sem.run_pure, slicedAt, q1, Nat.sub_zero, Nat.zero_mul, addr_add0]⟩⟩
end
end Go.Proofs.Ytdlpbpfcgjgppaa

/- Facts and contracts that the claim uses. No condition of its own. -/
set_option linter.unusedVariables false
set_option linter.unusedSimpArgs false
namespace Go.Proofs.Ytdlpbpfcgjgppaa
open Go.RowKit
end Go.Proofs.Ytdlpbpfcgjgppaa

/- Facts and contracts that the claim uses. No condition of its own. -/
set_option linter.unusedVariables false
set_option linter.unusedSimpArgs false
namespace Go.Proofs.Ytdlpbpfcgjgppaa
open Go.RowKit
theorem V.pair {ρ : Pl} {Z : Nat → Prop} {w : World} {a b : PV} {x y : Value} (h1 : V ρ Z w a x) (h2 : V ρ Z w b y) : V ρ Z w (.tup [a, b]) (.tuple #[x, y]) := .tup _ _ rfl (fun i hi => by
  match i, hi with
  | 0, _ => exact h1
  | 1, _ => exact h2
  | i + 2, h => simp at h; omega)
def fillT (n k : Nat) (F : Nat → Int) : List Int := (List.range n).map fun i => if i < k then F i else 0
theorem fillT_len (n k : Nat) (F : Nat → Int) : (fillT n k F).length = n := by simp [fillT]
theorem fillT_zero (n : Nat) (F : Nat → Int) : fillT n 0 F = List.replicate n 0 := by
  apply List.ext_getElem
  · simp [fillT]
  · intro i h1 h2; simp [fillT]
theorem fillT_set {n k : Nat} {F : Nat → Int} (hk : k < n) : (fillT n k F).set k (F k) = fillT n (k + 1) F := by
  apply List.ext_getElem
  · simp [fillT]
  · intro i h1 h2
    simp only [fillT, List.length_map, List.length_range] at h2
    rw [List.getElem_set]
    by_cases e : k = i
    · subst e; simp [fillT]
    · rw [if_neg e]
      simp only [fillT, List.getElem_map, List.getElem_range]
      by_cases h3 : i < k
      · rw [if_pos h3, if_pos (by omega)]
      · rw [if_neg h3, if_neg (by omega)]
theorem fillT_all (n : Nat) (F : Nat → Int) : fillT n n F = (List.range n).map F := by
  unfold fillT
  exact List.map_congr_left (fun i hi => by rw [if_pos (by simpa using hi)])
theorem fillT_tab (n : Nat) (F : Nat → Nat) : fillT n n (fun i => (F i : Int)) = tabN n F := fillT_all n _
theorem Fz.nil {h : HP} : Fz h (.lst true 0 0 []) (pli []) := Fz.nrm (p := .lst true 0 0 []) rfl
end Go.Proofs.Ytdlpbpfcgjgppaa

/- Facts and contracts that the claim uses. No condition of its own. -/
set_option linter.unusedVariables false
set_option linter.unusedSimpArgs false
namespace Go.Proofs.Ytdlpbpfcgjgppaa
open Go.RowKit
theorem le6' {n : Nat} (h : 1 ≤ n ∧ n ≤ 6) : n = 1 ∨ n = 2 ∨ n = 3 ∨ n = 4 ∨ n = 5 ∨ n = 6 := by omega
theorem ni_all {Q : Nat → Nat → Prop} (h : Q 2 1 ∧ Q 3 1 ∧ Q 3 2 ∧ Q 4 1 ∧ Q 4 2 ∧ Q 4 3 ∧ Q 5 1 ∧ Q 5 2 ∧ Q 5 3 ∧ Q 5 4 ∧ Q 6 1 ∧ Q 6 2 ∧ Q 6 3 ∧ Q 6 4 ∧ Q 6 5) {n i : Nat} (hn : n ≤ 6) (hi : 1 ≤ i ∧ i < n) : Q n i := by
  obtain ⟨a1, a2, a3, a4, a5, a6, a7, a8, a9, b1, b2, b3, b4, b5, b6⟩ := h
  rcases (show n = 2 ∨ n = 3 ∨ n = 4 ∨ n = 5 ∨ n = 6 by omega) with rfl | rfl | rfl | rfl | rfl
  · obtain rfl : i = 1 := by omega
    exact a1
  · rcases (show i = 1 ∨ i = 2 by omega) with rfl | rfl
    · exact a2
    · exact a3
  · rcases (show i = 1 ∨ i = 2 ∨ i = 3 by omega) with rfl | rfl | rfl
    · exact a4
    · exact a5
    · exact a6
  · rcases (show i = 1 ∨ i = 2 ∨ i = 3 ∨ i = 4 by omega) with rfl | rfl | rfl | rfl
    · exact a7
    · exact a8
    · exact a9
    · exact b1
  · rcases (show i = 1 ∨ i = 2 ∨ i = 3 ∨ i = 4 ∨ i = 5 by omega) with rfl | rfl | rfl | rfl | rfl
    · exact b2
    · exact b3
    · exact b4
    · exact b5
    · exact b6
end Go.Proofs.Ytdlpbpfcgjgppaa

/- Facts and contracts that the claim uses. No condition of its own. -/
set_option linter.unusedVariables false
set_option linter.unusedSimpArgs false
namespace Go.Proofs.Ytdlpbpfcgjgppaa
inductive RN (j : List Int) : Nat → Nat → Nat → Prop
  | root {x : Nat} : j.getD x 0 = (x : Int) → RN j x x 0
  | step {x y r k : Nat} : j.getD x 0 = (y : Int) → y ≠ x → RN j y r k → RN j x r (k + 1)
theorem RN.isRoot {j : List Int} {x r k : Nat} (h : RN j x r k) : j.getD r 0 = (r : Int) := by
  induction h with
  | root h => exact h
  | step _ _ _ ih => exact ih
theorem RN.uniq {j : List Int} {x r k r' k' : Nat} (h : RN j x r k) (h' : RN j x r' k') : r = r' := by
  induction h generalizing r' k' with
  | root h =>
    cases h' with
    | root _ => rfl
    | step h1 h2 _ => rw [h] at h1; omega
  | step h1 h2 _ ih =>
    cases h' with
    | root h => rw [h] at h1; omega
    | step h3 _ h4 => rw [h1] at h3; obtain rfl := Int.ofNat.inj h3; exact ih h4
structure Uf (j : List Int) (n : Nat) (r : Nat → Nat) : Prop where
  len : j.length = n
  inn : ∀ x, x < n → ∃ y : Nat, j.getD x 0 = (y : Int) ∧ y < n
  rt : ∀ x, x < n → r x < n ∧ ∃ k, RN j x (r x) k
theorem Uf.next {j : List Int} {n : Nat} {r : Nat → Nat} (h : Uf j n r) {x : Nat} (hx : x < n) : ∃ y : Nat, j.getD x 0 = (y : Int) ∧ y < n ∧ r y = r x := by
  obtain ⟨y, e, hy⟩ := h.inn x hx
  refine ⟨y, e, hy, ?_⟩
  obtain ⟨_, k, h2⟩ := h.rt x hx
  obtain ⟨_, k', h3⟩ := h.rt y hy
  by_cases c : y = x
  · rw [c]
  · exact (RN.step e c h3).uniq h2
theorem uf_start (n : Nat) : Uf ((List.range n).map fun (i : Nat) => (i : Int)) n id := by
  have g : ∀ x, x < n → ((List.range n).map fun (i : Nat) => (i : Int)).getD x 0 = (x : Int) := fun x hx => by simp [List.getD, hx]
  exact ⟨by simp, fun x hx => ⟨x, g x hx, hx⟩, fun x hx => ⟨hx, 0, .root (g x hx)⟩⟩
def joinR (r : Nat → Nat) (x y : Nat) : Nat → Nat := fun z => if r z = r x then r y else r z
theorem Uf.root_fix {j : List Int} {n : Nat} {r : Nat → Nat} (h : Uf j n r) {x : Nat} (hx : x < n) : j.getD (r x) 0 = (r x : Int) := by
  obtain ⟨_, k, h2⟩ := h.rt x hx
  exact h2.isRoot
theorem Uf.join {j : List Int} {n : Nat} {r : Nat → Nat} (h : Uf j n r) {x y : Nat} (hx : x < n) (hy : y < n) : Uf (j.set (r x) (r y : Int)) n (joinR r x y) := by
  have hl := h.len
  have hrx := (h.rt x hx).1
  have hry := (h.rt y hy).1
  have g : ∀ z, (j.set (r x) (r y : Int)).getD z 0 = if z = r x then (r y : Int) else j.getD z 0 := fun z => by
    simp only [List.getD, List.getElem?_set]
    by_cases e : r x = z
    · subst e; simp [hl, hrx]
    · simp [e, show z ≠ r x from fun e2 => e e2.symm]
  refine ⟨by simp [hl], fun z hz => ?_, fun z hz => ?_⟩
  · rw [g]
    split
    · exact ⟨r y, rfl, hry⟩
    · exact h.inn z hz
  have hrz := (h.rt z hz).1
  unfold joinR
  refine ⟨by split <;> assumption, ?_⟩
  have hroot : ∃ k, RN (j.set (r x) (r y : Int)) (r x) (r y) k := by
    by_cases e : r y = r x
    · rw [e]; exact ⟨0, .root (by have := g (r x); rw [if_pos rfl, e] at this; exact this)⟩
    · exact ⟨1, .step (by rw [g, if_pos rfl]) e (.root (by rw [g, if_neg e]; exact h.root_fix hy))⟩
  obtain ⟨_, k, hk⟩ := h.rt z hz
  have key : ∀ {z q k : Nat}, RN j z q k → ∃ k', RN (j.set (r x) (r y : Int)) z (if q = r x then r y else q) k' := by
    intro z q k hk
    induction hk with
    | root h1 =>
      rename_i z
      by_cases e : z = r x
      · rw [if_pos e, e]; exact hroot
      · rw [if_neg e]; exact ⟨0, .root (by rw [g, if_neg e]; exact h1)⟩
    | step h1 h2 h3 ih =>
      rename_i z y' q k
      obtain ⟨k', ih⟩ := ih
      by_cases e : z = r x
      · exfalso
        have := h.root_fix hx
        rw [← e, h1] at this
        exact h2 (Int.ofNat.inj this)
      · exact ⟨k' + 1, .step (by rw [g, if_neg e]; exact h1) h2 ih⟩
  exact key hk
def joinA (r : Nat → Nat) : List (Nat × Nat) → Nat → Nat
  | [] => r
  | p :: ps => joinA (joinR r p.1 p.2) ps
theorem joinA_snoc (p : Nat × Nat) : ∀ (ps : List (Nat × Nat)) (r : Nat → Nat), joinA r (ps ++ [p]) = joinR (joinA r ps) p.1 p.2
  | [], _ => rfl
  | q :: ps, r => joinA_snoc p ps _
inductive Cn (ps : List (Nat × Nat)) : Nat → Nat → Prop
  | pair {x y : Nat} : (x, y) ∈ ps → Cn ps x y
  | refl (x : Nat) : Cn ps x x
  | symm {x y : Nat} : Cn ps x y → Cn ps y x
  | trans {x y z : Nat} : Cn ps x y → Cn ps y z → Cn ps x z
theorem Cn.mono {ps qs : List (Nat × Nat)} (h : ∀ p ∈ ps, p ∈ qs) {x y : Nat} (c : Cn ps x y) : Cn qs x y := by
  induction c with
  | pair hp => exact .pair (h _ hp)
  | refl x => exact .refl x
  | symm _ ih => exact ih.symm
  | trans _ _ ih1 ih2 => exact ih1.trans ih2
theorem joinA_cn (ps : List (Nat × Nat)) : ∀ x y, joinA id ps x = joinA id ps y ↔ Cn ps x y := by
  obtain ⟨qs, rfl⟩ : ∃ qs, ps = qs.reverse := ⟨ps.reverse, by simp⟩
  induction qs with
  | nil =>
    intro x y
    constructor
    · intro h
      have : x = y := h
      subst this
      exact .refl x
    · intro h
      show x = y
      induction h with
      | pair hp => cases hp
      | refl x => rfl
      | symm _ ih => exact ih.symm
      | trans _ _ ih1 ih2 => exact ih1.trans ih2
  | cons p qs ih =>
    have e1 : ∀ z, joinA id (p :: qs).reverse z = joinR (joinA id qs.reverse) p.1 p.2 z := fun z => by rw [List.reverse_cons, joinA_snoc]
    have up : ∀ {x y}, Cn qs.reverse x y → Cn (p :: qs).reverse x y := fun h => h.mono (fun q hq => by rw [List.reverse_cons]; exact List.mem_append_left _ hq)
    have hp : Cn (p :: qs).reverse p.1 p.2 := .pair (by simp)
    intro x y
    rw [e1, e1]
    constructor
    · intro h
      unfold joinR at h
      split at h <;> split at h
      · rename_i a b; exact (up ((ih _ _).1 a)).trans (up ((ih _ _).1 b)).symm
      · rename_i a b; exact ((up ((ih _ _).1 a)).trans hp).trans (up ((ih _ _).1 h))
      · rename_i a b; exact (up ((ih _ _).1 h)).trans (((up ((ih _ _).1 b)).trans hp).symm)
      · exact up ((ih _ _).1 h)
    · intro h
      induction h with
      | pair hm =>
        rw [List.reverse_cons, List.mem_append, List.mem_singleton] at hm
        rcases hm with hm | hm
        · have := (ih _ _).2 (.pair hm)
          unfold joinR; rw [this]
        · subst hm
          unfold joinR
          simp
      | refl x => rfl
      | symm _ ih => exact ih.symm
      | trans _ _ ih1 ih2 => exact ih1.trans ih2
end Go.Proofs.Ytdlpbpfcgjgppaa

/- Facts and contracts that the claim uses. No condition of its own. -/
set_option linter.unusedVariables false
set_option linter.unusedSimpArgs false
namespace Go.Proofs.Ytdlpbpfcgjgppaa
abbrev Lns := Nat → List Nat
structure Gr (n : Nat) (g : Lns) : Prop where
  lt : ∀ p, p < n → ∀ q ∈ g p, q < n ∧ q ≠ p
  out : ∀ p, n ≤ p → g p = []
  sym : ∀ p q, (g p).count q = (g q).count p
def cutG (g : Lns) (p q : Nat) : Lns := fun v => if v = p then (g p).tail else if v = q then (g q).erase p else g v
theorem cut_p (g : Lns) (p q : Nat) : cutG g p q p = (g p).tail := if_pos rfl
theorem cut_q (g : Lns) {p q : Nat} (h : q ≠ p) : cutG g p q q = (g q).erase p := by unfold cutG; rw [if_neg h, if_pos rfl]
theorem cut_o (g : Lns) {p q v : Nat} (h1 : v ≠ p) (h2 : v ≠ q) : cutG g p q v = g v := by unfold cutG; rw [if_neg h1, if_neg h2]
theorem Gr.mem {n : Nat} {g : Lns} (h : Gr n g) {p q : Nat} (hm : q ∈ g p) : p ∈ g q := by
  rw [← List.count_pos_iff] at hm ⊢
  rw [← h.sym]; exact hm
theorem Gr.cut {n : Nat} {g : Lns} (h : Gr n g) {p q : Nat} {r : List Nat} (hp : p < n) (e : g p = q :: r) : Gr n (cutG g p q) ∧ q < n ∧ q ≠ p ∧ p ∈ g q := by
  obtain ⟨hq, hne⟩ := h.lt p hp q (by rw [e]; simp)
  have hmem : p ∈ g q := h.mem (p := p) (q := q) (by rw [e]; simp)
  refine ⟨⟨fun v hv u hu => ?_, fun v hv => ?_, fun v u => ?_⟩, hq, hne, hmem⟩
  · by_cases c1 : v = p
    · subst c1
      rw [cut_p, e, List.tail_cons] at hu
      exact h.lt v hv u (by rw [e]; simp [hu])
    · by_cases c2 : v = q
      · subst c2
        rw [cut_q g hne] at hu
        exact h.lt v hv u (List.mem_of_mem_erase hu)
      · rw [cut_o g c1 c2] at hu
        exact h.lt v hv u hu
  · rw [cut_o g (by omega) (by omega)]; exact h.out v hv
  · have hs := h.sym
    have key : ∀ a b, (cutG g p q a).count b = (g a).count b - (if (a = p ∧ b = q) ∨ (a = q ∧ b = p) then 1 else 0) := fun a b => by
      by_cases c1 : a = p
      · subst c1
        rw [cut_p, e, List.tail_cons, List.count_cons]
        by_cases c : b = q
        · subst c; simp
        · rw [if_neg (by simpa using fun e => c e.symm), if_neg (by omega)]; omega
      · by_cases c2 : a = q
        · subst c2
          rw [cut_q g hne]
          by_cases c : b = p
          · subst c; rw [List.count_erase_self, if_pos (.inr ⟨rfl, rfl⟩)]
          · rw [List.count_erase_of_ne c, if_neg (by omega)]; omega
        · rw [cut_o g c1 c2, if_neg (by omega)]; omega
    rw [key, key, hs v u]
    by_cases c : (v = p ∧ u = q) ∨ (v = q ∧ u = p)
    · rw [if_pos c, if_pos (by omega)]
    · rw [if_neg c, if_neg (by omega)]
theorem cut_len {n : Nat} {g : Lns} (h : Gr n g) {p q : Nat} {r : List Nat} (hp : p < n) (e : g p = q :: r) (v : Nat) : (cutG g p q v).length + (if v = p ∨ v = q then 1 else 0) = (g v).length := by
  obtain ⟨_, hq, hne, hmem⟩ := h.cut hp e
  by_cases c1 : v = p
  · subst c1; rw [cut_p, e, if_pos (.inl rfl)]; rfl
  · by_cases c2 : v = q
    · subst c2
      rw [cut_q g hne, List.length_erase_of_mem hmem, if_pos (.inr rfl)]
      have : 0 < (g v).length := List.length_pos_of_mem hmem
      omega
    · rw [cut_o g c1 c2, if_neg (by omega)]; rfl
inductive Cg (g : Lns) (x : Nat) : Nat → Prop
  | refl : Cg g x x
  | step {y z : Nat} : Cg g x y → z ∈ g y → Cg g x z
theorem Cg.trans {g : Lns} {x y z : Nat} (h : Cg g x y) (h' : Cg g y z) : Cg g x z := by
  induction h' with
  | refl => exact h
  | step _ hz ih => exact ih.step hz
theorem Cg.symm {n : Nat} {g : Lns} (hg : Gr n g) {x y : Nat} (h : Cg g x y) : Cg g y x := by
  induction h with
  | refl => exact .refl
  | step _ hz ih => exact (Cg.step .refl (hg.mem hz)).trans ih
theorem cut_sub {g : Lns} {p q v z : Nat} (h : z ∈ cutG g p q v) : z ∈ g v := by
  unfold cutG at h
  split at h
  · rename_i c; subst c; exact List.mem_of_mem_tail h
  · split at h
    · rename_i c; subst c; exact List.mem_of_mem_erase h
    · exact h
theorem Cg.of_cut {g : Lns} {p q x y : Nat} (h : Cg (cutG g p q) x y) : Cg g x y := by
  induction h with
  | refl => exact .refl
  | step _ hz ih => exact ih.step (cut_sub hz)
theorem cut_keep {g : Lns} {p q v z : Nat} {r : List Nat} (e : g p = q :: r) (hz : z ∈ g v) (h1 : ¬ (v = p ∧ z = q)) (h2 : ¬ (v = q ∧ z = p)) : z ∈ cutG g p q v := by
  unfold cutG
  split
  · rename_i c; subst c
    rw [e] at hz ⊢
    rcases List.mem_cons.1 hz with h | h
    · exact absurd ⟨rfl, h⟩ h1
    · exact h
  · split
    · rename_i c; subst c
      exact (List.mem_erase_of_ne (fun e => h2 ⟨rfl, e⟩)).2 hz
    · exact hz
inductive Wg : Lns → Nat → Lns → Nat → Prop
  | stop {g : Lns} {p : Nat} : g p = [] → Wg g p g p
  | step {g g' : Lns} {p q e : Nat} {r : List Nat} : g p = q :: r → Wg (cutG g p q) q g' e → Wg g p g' e
theorem Wg.base {n : Nat} {g g' : Lns} {p e : Nat} (h : Wg g p g' e) : Gr n g → p < n → Gr n g' ∧ e < n ∧ g' e = [] ∧ Cg g p e ∧ (∀ v, ((g' v).length + (g v).length + (if v = p then 1 else 0) + (if v = e then 1 else 0)) % 2 = 0) ∧ (∀ v, ¬ Cg g p v → g' v = g v) := by
  induction h with
  | stop h =>
    intro hg hp
    refine ⟨hg, hp, h, .refl, fun v => ?_, fun _ _ => rfl⟩
    split <;> omega
  | step e _ ih =>
    rename_i g g' p q e0 r h2
    intro hg hp
    obtain ⟨hg1, hq, hne, hmem⟩ := hg.cut hp e
    obtain ⟨i1, i2, i3, i4, i5, i6⟩ := ih hg1 hq
    have hpq : Cg g p q := .step .refl (by rw [e]; simp)
    refine ⟨i1, i2, i3, hpq.trans i4.of_cut, fun v => ?_, fun v hv => ?_⟩
    · have a1 := i5 v
      have a2 := cut_len hg hp e v
      by_cases c1 : v = p
      · rw [if_pos (.inl c1)] at a2
        rw [if_neg (by omega)] at a1
        rw [if_pos c1]; omega
      · by_cases c2 : v = q
        · rw [if_pos (.inr c2)] at a2
          rw [if_pos c2] at a1
          rw [if_neg c1]; omega
        · rw [if_neg (by omega)] at a2
          rw [if_neg c2] at a1
          rw [if_neg c1]; omega
    · have hvp : v ≠ p := fun e => hv (by rw [e]; exact .refl)
      have hvq : v ≠ q := fun e => hv (by rw [e]; exact hpq)
      rw [i6 v (fun h => hv (hpq.trans h.of_cut)), cut_o g hvp hvq]
theorem Wg.clear {n : Nat} {g g' : Lns} {p e : Nat} (h : Wg g p g' e) : Gr n g → p < n → (∀ v, (g v).length ≤ 2) → (g p).length ≤ 1 → ∀ v, Cg g p v → g' v = [] := by
  induction h with
  | stop h =>
    intro _ _ _ _ v hv
    induction hv with
    | refl => exact h
    | step hy hz ih => exact absurd hz (by
        have : ∀ {g : Lns} {p y : Nat}, g p = [] → Cg g p y → y = p := fun {g p y} h hy => by
          induction hy with
          | refl => rfl
          | step _ hz ih => rw [ih, h] at hz; cases hz
        rw [this h hy, h]; simp)
  | step e hw ih =>
    rename_i g g' p q e0 r
    intro hg hp h2 h1 v hv
    obtain ⟨hg1, hq, hne, hmem⟩ := hg.cut hp e
    have hr : r = [] := by rw [e] at h1; simpa using h1
    subst hr
    have hl := cut_len hg hp e
    have ih := ih hg1 hq (fun v => by have := hl v; have := h2 v; omega) (by have := hl q; rw [if_pos (.inr rfl)] at this; have := h2 q; omega)
    have hc : ∀ {v}, Cg g p v → v = p ∨ Cg (cutG g p q) q v := fun {v} hv => by
      induction hv with
      | refl => exact .inl rfl
      | step hy hz ih =>
        rename_i u z
        by_cases cz : z = p
        · exact .inl cz
        rcases ih with rfl | ih
        · rw [e] at hz
          simp only [List.mem_singleton] at hz
          subst hz
          exact .inr .refl
        · refine .inr (ih.step (cut_keep e hz (fun c => ?_) (fun c => cz c.2)))
          obtain ⟨rfl, rfl⟩ := c
          have : ∀ {v}, Cg (cutG g u z) z v → v ≠ u := fun {v} hv => by
            induction hv with
            | refl => exact hne
            | step hy2 hz2 _ =>
              rename_i a b
              intro eb
              subst eb
              have := hg1.mem hz2
              rw [cut_p, e] at this
              cases this
          exact this ih rfl
    rcases hc hv with rfl | hv
    · have b := hw.base hg1 hq
      by_cases cc : Cg (cutG g v q) q v
      · exact ih v cc
      · rw [b.2.2.2.2.2 v cc, cut_p, e]; rfl
    · exact ih v hv
theorem Wg.path {n : Nat} {g g' : Lns} {p e : Nat} (h : Wg g p g' e) (hg : Gr n g) (hp : p < n) (h2 : ∀ v, (g v).length ≤ 2) (h1 : (g p).length = 1) :
    e < n ∧ e ≠ p ∧ (g e).length = 1 ∧ Cg g p e ∧ (∀ v, Cg g p v → g' v = []) ∧ (∀ v, ¬ Cg g p v → g' v = g v) ∧ (∀ v, Cg g p v → (g v).length = 1 → v = p ∨ v = e) := by
  obtain ⟨b1, b2, b3, b4, b5, b6⟩ := h.base hg hp
  have hc := h.clear hg hp h2 (by omega)
  have he : e ≠ p := fun he => by
    have := b5 e
    rw [b3, if_pos he, if_pos rfl, he] at this
    simp only [List.length_nil] at this
    omega
  refine ⟨b2, he, ?_, b4, hc, b6, fun v hv hv1 => ?_⟩
  · have := b5 e
    have h3 := h2 e
    rw [b3, if_neg he, if_pos rfl] at this
    simp only [List.length_nil] at this
    omega
  · have := b5 v
    rw [hc v hv, hv1] at this
    simp only [List.length_nil] at this
    by_cases c1 : v = p
    · exact .inl c1
    · by_cases c2 : v = e
      · exact .inr c2
      · rw [if_neg c1, if_neg c2] at this; omega
theorem Wg.cycle {n : Nat} {g g' : Lns} {p e : Nat} (h : Wg g p g' e) (hg : Gr n g) (hp : p < n) (h2 : ∀ v, (g v).length ≤ 2) (h1 : 0 < (g p).length) (hev : ∀ v, Cg g p v → (g v).length % 2 = 0) :
    (∀ v, Cg g p v → g' v = []) ∧ (∀ v, ¬ Cg g p v → g' v = g v) := by
  obtain ⟨b1, b2, b3, b4, b5, b6⟩ := h.base hg hp
  refine ⟨?_, b6⟩
  cases h with
  | stop h => rw [h] at h1; simp at h1
  | step e0 hw =>
    rename_i q r
    obtain ⟨hg1, hq, hne, hmem⟩ := hg.cut hp e0
    have hl := cut_len hg hp e0
    have hpq : Cg g p q := .step .refl (by rw [e0]; simp)
    have hq2 := hev q hpq
    have hq3 := h2 q
    have lq := hl q
    rw [if_pos (.inr rfl)] at lq
    have h2' : ∀ v, (cutG g p q v).length ≤ 2 := fun v => by have := hl v; have := h2 v; omega
    obtain ⟨c1, c2, c3, c4, c5, c6⟩ := hw.base hg1 hq
    have hc := hw.clear hg1 hq h2' (by omega)
    have hep : e = p := by
      refine Classical.byContradiction (fun hne2 => ?_)
      have h5 := c5 e
      have h6 := hev e (hpq.trans c4.of_cut)
      have h7 := hl e
      rw [c3, if_pos rfl] at h5
      simp only [List.length_nil] at h5
      by_cases c : e = q
      · rw [if_pos c] at h5
        rw [if_pos (.inr c)] at h7
        omega
      · rw [if_neg c] at h5
        rw [if_neg (by omega)] at h7
        omega
    rw [hep] at c4
    have key : ∀ {v}, Cg g p v → Cg (cutG g p q) q v := fun {v} hv => by
      induction hv with
      | refl => exact c4
      | step hy hz ih =>
        rename_i u z
        by_cases d1 : u = p ∧ z = q
        · rw [d1.2]; exact .refl
        · by_cases d2 : u = q ∧ z = p
          · rw [d2.2]; exact c4
          · exact ih.step (cut_keep e0 hz d1 d2)
    exact fun v hv => hc v (key hv)
theorem wg_ex {n : Nat} : ∀ (N : Nat) (g : Lns) (p : Nat), Gr n g → p < n → ((List.range n).map fun v => (g v).length).sum ≤ N → ∃ g' e, Wg g p g' e := by
  intro N
  induction N with
  | zero =>
    intro g p hg hp hs
    have : (g p).length = 0 := by
      have h1 : (g p).length ∈ (List.range n).map fun v => (g v).length := List.mem_map.2 ⟨p, List.mem_range.2 hp, rfl⟩
      have key : ∀ l : List Nat, ∀ x ∈ l, x ≤ l.sum := fun l => by
        induction l with
        | nil => intro x hx; cases hx
        | cons y l ih =>
          intro x hx
          rw [List.sum_cons]
          rcases List.mem_cons.1 hx with rfl | hx
          · omega
          · have := ih x hx; omega
      have := key _ _ h1
      omega
    exact ⟨g, p, .stop (List.length_eq_zero_iff.1 this)⟩
  | succ N ih =>
    intro g p hg hp hs
    cases e : g p with
    | nil => exact ⟨g, p, .stop e⟩
    | cons q r =>
      obtain ⟨hg1, hq, hne, hmem⟩ := hg.cut hp e
      have hl := cut_len hg hp e
      have hsum : ∀ m, ((List.range m).map fun v => (cutG g p q v).length).sum + (if p < m then 1 else 0) ≤ ((List.range m).map fun v => (g v).length).sum := fun m => by
        induction m with
        | zero => simp
        | succ m ih2 =>
          rw [List.range_succ, List.map_append, List.map_append, List.sum_append, List.sum_append]
          simp only [List.map_cons, List.map_nil, List.sum_cons, List.sum_nil]
          have := hl m
          by_cases c : p = m
          · subst c
            rw [if_pos (.inl rfl)] at this
            rw [if_pos (by omega)]
            rw [if_neg (by omega)] at ih2
            omega
          · by_cases c2 : p < m
            · rw [if_pos c2] at ih2
              rw [if_pos (by omega)]
              omega
            · rw [if_neg c2] at ih2
              rw [if_neg (by omega)]
              omega
      have := hsum n
      rw [if_pos hp] at this
      obtain ⟨g', e2, hw⟩ := ih (cutG g p q) q hg1 hq (by omega)
      exact ⟨g', e2, .step e hw⟩
end Go.Proofs.Ytdlpbpfcgjgppaa
