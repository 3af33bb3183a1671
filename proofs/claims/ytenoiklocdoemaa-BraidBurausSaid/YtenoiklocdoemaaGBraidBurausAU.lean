/- Laurent polynomials as a lowest exponent and a list of coefficients: the plain facts. Nothing of the program is here. -/
import Derived.Test.YtenoiklocdoemaaGBraidBurausAT
import Derived.Test.YtenoiklocdoemaaGBraidBurausAP
set_option linter.unusedVariables false
set_option linter.unusedSimpArgs false
namespace Go.Proofs.Ytenoiklocdoemaa

abbrev Po := Int × List Int
def co (p : Po) (e : Int) : Int := if p.1 ≤ e then p.2.getD (e - p.1).toNat 0 else 0
def canon (p : Po) : Prop := (p.2 = [] ∧ p.1 = 0) ∨ (p.2 ≠ [] ∧ p.2.getD 0 0 ≠ 0 ∧ p.2.getD (p.2.length - 1) 0 ≠ 0)
theorem getD_out {xs : List Int} {k : Nat} (h : xs.length ≤ k) : xs.getD k 0 = 0 := by
  simp [List.getD, h]
theorem co_lo {p : Po} {e : Int} (h : e < p.1) : co p e = 0 := if_neg (by omega)
theorem co_hi {p : Po} {e : Int} (h : p.1 + p.2.length ≤ e) : co p e = 0 := by
  unfold co
  rw [if_pos (by omega), getD_out (by omega)]
theorem co_in {p : Po} {e : Int} (h : co p e ≠ 0) : p.1 ≤ e ∧ e < p.1 + p.2.length := by
  constructor
  · apply Classical.byContradiction; intro c; exact h (co_lo (by omega))
  · apply Classical.byContradiction; intro c; exact h (co_hi (by omega))
theorem co_at (p : Po) (k : Nat) : co p (p.1 + k) = p.2.getD k 0 := by
  unfold co
  rw [if_pos (by omega), show (p.1 + (k : Int) - p.1).toNat = k by omega]
theorem co_nil (e l : Int) : co (l, []) e = 0 := by unfold co; split <;> simp
theorem canon_uniq {p q : Po} (hp : canon p) (hq : canon q) (h : ∀ e, co p e = co q e) : p = q := by
  obtain ⟨l, c⟩ := p
  obtain ⟨l', c'⟩ := q
  rcases hp with ⟨rfl, rfl⟩ | ⟨p1, p2, p3⟩
  · rcases hq with ⟨rfl, rfl⟩ | ⟨q1, q2, q3⟩
    · rfl
    · exfalso
      have := h (l' + (0 : Nat))
      rw [co_at (l', c'), co_nil] at this
      exact q2 this.symm
  · have hc : 0 < c.length := List.length_pos_iff.2 p1
    rcases hq with ⟨rfl, rfl⟩ | ⟨q1, q2, q3⟩
    · exfalso
      have := h (l + (0 : Nat))
      rw [co_at (l, c), co_nil] at this
      exact p2 this
    · have hc' : 0 < c'.length := List.length_pos_iff.2 q1
      have a1 := co_in (p := (l', c')) (e := l + (0 : Nat)) (by rw [← h, co_at (l, c)]; exact p2)
      have a2 := co_in (p := (l, c)) (e := l' + (0 : Nat)) (by rw [h, co_at (l', c')]; exact q2)
      have a3 := co_in (p := (l', c')) (e := l + (c.length - 1 : Nat)) (by rw [← h, co_at (l, c)]; exact p3)
      have a4 := co_in (p := (l, c)) (e := l' + (c'.length - 1 : Nat)) (by rw [h, co_at (l', c')]; exact q3)
      simp only at a1 a2 a3 a4
      have e1 : l = l' := by omega
      subst e1
      have e2 : c.length = c'.length := by omega
      congr 1
      apply List.ext_getElem e2
      intro i h1 h2
      have := h (l + i)
      rw [co_at (l, c), co_at (l, c')] at this
      simp only at this
      rwa [getD_lt 0 h1, getD_lt 0 h2] at this
/-- the polynomial in its normal form that has these coefficients -/
noncomputable def cano (F : Int → Int) : Po := @dite _ (∃ p, canon p ∧ ∀ e, co p e = F e) (Classical.propDecidable _) (fun h => Classical.choose h) (fun _ => (0, []))
theorem cano_eq {F : Int → Int} {p : Po} (h1 : canon p) (h2 : ∀ e, co p e = F e) : cano F = p := by
  have hex : ∃ p, canon p ∧ ∀ e, co p e = F e := ⟨p, h1, h2⟩
  unfold cano
  rw [dif_pos hex]
  obtain ⟨g1, g2⟩ := Classical.choose_spec hex
  exact canon_uniq g1 h1 (fun e => by rw [g2, h2])
theorem canon_zero : canon (0, []) := .inl ⟨rfl, rfl⟩
theorem cano_zero {F : Int → Int} (h : ∀ e, F e = 0) : cano F = (0, []) := cano_eq canon_zero (fun e => by rw [co_nil, h])
theorem canon_slice {low : Int} {c : List Int} {f l : Nat} (hf : f < l) (hl : l ≤ c.length) (h1 : c.getD f 0 ≠ 0) (h2 : c.getD (l - 1) 0 ≠ 0) (h3 : ∀ j, j < f → c.getD j 0 = 0) (h4 : ∀ j, l ≤ j → c.getD j 0 = 0) :
    cano (co (low, c)) = (low + f, (c.take l).drop f) := by
  have hlen : ((c.take l).drop f).length = l - f := by simp; omega
  have hg : ∀ j, j < l - f → ((c.take l).drop f).getD j 0 = c.getD (f + j) 0 := fun j hj => by
    simp only [List.getD, List.getElem?_drop, List.getElem?_take]
    rw [if_pos (by omega)]
  refine cano_eq (.inr ⟨?_, ?_, ?_⟩) (fun e => ?_)
  · intro e; have := congrArg List.length e; simp at this; omega
  · simp only
    rw [hg 0 (by omega)]; simpa using h1
  · simp only
    rw [hlen, hg _ (by omega), show f + (l - f - 1) = l - 1 by omega]; exact h2
  · unfold co
    simp only
    by_cases c1 : low ≤ e
    · rw [if_pos c1]
      by_cases c2 : low + f ≤ e
      · rw [if_pos c2]
        by_cases c3 : (e - (low + f)).toNat < l - f
        · rw [hg _ c3]; congr 1; omega
        · rw [getD_out (by omega), h4 _ (by omega)]
      · rw [if_neg c2, h3 _ (by omega)]
    · rw [if_neg (by omega), if_neg c1]
theorem canon_none {low : Int} {c : List Int} (h : ∀ j, j < c.length → c.getD j 0 = 0) : cano (co (low, c)) = (0, []) := cano_zero (fun e => by
  unfold co
  split
  · by_cases hj : (e - low).toNat < c.length
    · exact h _ hj
    · exact getD_out (by simp only; omega)
  · rfl)

/-- a list by its elements -/
def tab (n : Nat) (G : Nat → Int) : List Int := (List.range n).map G
@[simp] theorem tab_length (n : Nat) (G : Nat → Int) : (tab n G).length = n := by simp [tab]
theorem tab_get {n : Nat} {G : Nat → Int} {i : Nat} (h : i < n) : (tab n G).getD i 0 = G i := by simp [tab, List.getD, h]
theorem tab_eq {n : Nat} {G : Nat → Int} {c : List Int} (h : c.length = n) (hg : ∀ i, i < n → c.getD i 0 = G i) : c = tab n G := by
  apply List.ext_getElem (by simp [h])
  intro i h1 h2
  rw [← getD_lt 0 h1, ← getD_lt 0 h2, hg i (by omega), tab_get (by omega)]
theorem tab_set {n : Nat} {G : Nat → Int} {k : Nat} {v : Int} : (tab n G).set k v = tab n (fun i => if i = k then v else G i) := by
  refine tab_eq (by simp) (fun i hi => ?_)
  simp only [List.getD, List.getElem?_set, tab_length]
  by_cases e : k = i
  · subst e; simp [hi]
  · rw [if_neg e, if_neg (fun h => e h.symm)]
    have := tab_get (G := G) hi
    simpa [List.getD] using this
theorem tab_congr {n : Nat} {G G' : Nat → Int} (h : ∀ i, i < n → G i = G' i) : tab n G = tab n G' := tab_eq (by simp) (fun i hi => by rw [tab_get hi, h i hi])
theorem tab_zero (n : Nat) : List.replicate n (0 : Int) = tab n (fun _ => 0) := tab_eq (by simp) (fun i hi => by simp [List.getD, hi])
theorem co_tab {low : Int} {n : Nat} {F : Int → Int} (h : ∀ e, F e ≠ 0 → low ≤ e ∧ e < low + n) : co (low, tab n (fun j => F (low + j))) = F := by
  funext e
  unfold co
  simp only
  by_cases c1 : low ≤ e
  · rw [if_pos c1]
    by_cases c2 : (e - low).toNat < n
    · rw [tab_get c2]; congr 1; omega
    · rw [getD_out (by simp; omega)]
      apply Classical.byContradiction; intro c
      have := h e (fun hh => c hh.symm); omega
  · rw [if_neg c1]
    apply Classical.byContradiction; intro c
    have := h e (fun hh => c hh.symm); omega
theorem acc_get {low : Int} {n : Nat} {G : Int → Int} {zs : List Int} (hzs : zs = tab n (fun j => G (low + j))) {q : Nat} {e : Int} (hq : (q : Int) = e - low) (h2 : e < low + n) : zs.getD q 0 = G e := by
  subst hzs
  rw [tab_get (by omega)]; congr 1; omega
/-- the first i coefficients -/
def coT (p : Po) (i : Nat) (e : Int) : Int := if p.1 ≤ e ∧ e < p.1 + i then co p e else 0
theorem coT_zero (p : Po) (e : Int) : coT p 0 e = 0 := if_neg (by omega)
theorem coT_succ (p : Po) (i : Nat) (e : Int) : coT p (i + 1) e = coT p i e + (if e = p.1 + i then p.2.getD i 0 else 0) := by
  unfold coT
  by_cases h : e = p.1 + i
  · subst h
    rw [if_pos (by omega), if_neg (by omega), if_pos rfl, co_at]; omega
  · rw [if_neg h]
    by_cases h2 : p.1 ≤ e ∧ e < p.1 + i
    · rw [if_pos (by omega), if_pos h2]; omega
    · rw [if_neg (by omega), if_neg h2]; omega
theorem coT_all (p : Po) (e : Int) : coT p p.2.length e = co p e := by
  unfold coT
  by_cases h : p.1 ≤ e ∧ e < p.1 + p.2.length
  · rw [if_pos h]
  · rw [if_neg h]
    by_cases h2 : e < p.1
    · rw [co_lo h2]
    · rw [co_hi (by omega)]
end Go.Proofs.Ytenoiklocdoemaa

/- Contracts by worlds taken over as contracts by lists. Nothing of the program is here. -/
set_option linter.unusedVariables false
set_option linter.unusedSimpArgs false
namespace Go.Proofs.Ytenoiklocdoemaa
open Go.RowKit

theorem callable {P : Program} {f : FuncId} {fn : Func} (h : P.funcs[f]? = some fn) (h1 : (fn.name == "runtime.NumGoroutine") = false) (h2 : fn.body.isNone = false) : Callable P f := ⟨fn, h, h1, h2⟩
theorem V.of_ints {Z : Nat → Prop} {ρ : Pl} {w : World} {A : Option Addr} {cap : Nat} {xs : List Int} (h : IsInts w A cap xs) (hz : ∀ b o, xs ≠ [] → A = some ⟨b, o, none⟩ → ¬ Z b) : V ρ Z w (pli xs) (.slice A xs.length cap) := by
  refine .lst _ _ _ _ _ _ (fun i => .int .i64 (xs.getD i 0)) h.len (fun hh => by cases hh) (by have := h.cap_le; unfold maxLen; omega) (by simp) (fun hne => ?_) (fun i hi => ?_)
  · have hx : xs ≠ [] := by rintro rfl; exact hne rfl
    obtain ⟨b, o, rfl, hb, hc⟩ := h.row hx
    exact ⟨b, o, rfl, hz b o hx rfl, hb, fun i hi => hc i (by simpa using hi)⟩
  · rw [getD_of (ints_at (by simpa using hi))]; exact .sc _
/-- flat arguments, flat result -/
theorem SC.flat {P : Program} {f : FuncId} {args : List Value} {r : Value} (hc : Callable P f) (h : ∀ w, Calls P f args.toArray w fun e w' => e = .returned r ∧ Below w.heap.size w w') : SC P f (args.map .sc) (.sc r) := by
  refine ⟨hc, fun Z w vs hz hl hv => ?_⟩
  have e : vs = args.toArray := by
    apply Array.ext
    · simp at hl; simp [hl]
    · intro i h1 h2
      have := hv i (by simp at h2; simpa using h2)
      have e1 : (args.map PV.sc).getD i .junk = .sc (args[i]'(by simpa using h2)) := by simp [List.getD, show i < args.length by simpa using h2]
      have e2 : vs.getD i undef = vs[i] := by simp [Array.getD, h1]
      rw [e1, e2] at this
      simp [this.sc_inv]
  rw [e]
  exact (h w).mono fun e w' ⟨h1, h2⟩ => ⟨_, h1, .sc _, h2⟩
def pfr (n d : Int) : PV := .agg [.sc (.int .i64 n), .sc (.int .i64 d)]
theorem pfr_cl (n d : Int) : (pfr n d).cl = true := rfl
theorem pint_cl (n : Int) : (pint n).cl = true := rfl
/-- a struct of an int and a list of ints -/
def ppo (p : Int × List Int) : PV := .agg [pint p.1, pli p.2]
theorem ppo_cl (p : Int × List Int) : (ppo p).cl = true := by simp only [ppo, PV.cl, PV.cl.clL, pint_cl, pli_cl, Bool.and_self]
end Go.Proofs.Ytenoiklocdoemaa
