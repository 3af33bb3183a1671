/- Lists made entry by entry; permutations turned round. No condition of its own. -/
import Derived.Test.YtenoiklocdoemaaGAlexanderMinorsAB
import Derived.Test.YtenoiklocdoemaaGAlexanderMinorsAU
import Derived.Test.YtenoiklocdoemaaGAlexanderMinorsAR
import Derived.Test.YtenoiklocdoemaaGAlexanderMinorsAA
set_option linter.unusedVariables false
set_option linter.unusedSimpArgs false
namespace Go.Proofs.Ytenoiklocdoemaa
open Go.RowKit

theorem vs_of {vs : Array Value} {us : List Value} (hl : vs.size = us.length) (h : ∀ i, i < us.length → vs.getD i undef = us.getD i undef) : vs = us.toArray := by
  apply Array.ext
  · simpa using hl
  · intro i h3 h4
    have := h i (by simpa using h4)
    simp at h4
    simpa [Array.getD, h3, List.getD, h4] using this
theorem V.pair {ρ : Pl} {Z : Nat → Prop} {w : World} {a b : PV} {x y : Value} (h1 : V ρ Z w a x) (h2 : V ρ Z w b y) : V ρ Z w (.tup [a, b]) (.tuple #[x, y]) := .tup _ _ rfl (fun i hi => by
  match i, hi with
  | 0, _ => exact h1
  | 1, _ => exact h2
  | i + 2, h => simp at h; omega)
/-- out[i] = F i for all i below k, the rest 0 -/
def fillT (n k : Nat) (F : Nat → Int) : List Int := (List.range n).map fun i => if i < k then F i else 0
theorem Fz.pair {h : HP} {a b a' b' : PV} (h1 : Fz h a a') (h2 : Fz h b b') : Fz h (.tup [a, b]) (.tup [a', b']) :=
  .tup rfl (fun i hi => by
    match i, hi with
    | 0, _ => exact h1
    | 1, _ => exact h2
    | i + 2, h => simp at h; omega)
theorem Fz.nil {h : HP} : Fz h (.lst true 0 0 []) (pli []) := Fz.nrm (p := .lst true 0 0 []) rfl
end Go.Proofs.Ytenoiklocdoemaa

/- A slice of one's own, cut: what lies behind it is forgotten. Nothing of the program is here. -/
set_option linter.unusedVariables false
set_option linter.unusedSimpArgs false
namespace Go.Proofs.Ytenoiklocdoemaa
open Go.RowKit
variable {P : Program} {T : TypeId → TI} {M : Hn} {t : Nat → PV} {h : HP} {n : Nat} {Q : Exit → AS → Prop}

theorem HRel.nrm {w0 : World} {Z0 : Nat → Prop} {ρ : Pl} {w : World} (H : HRel w0 Z0 ρ h w) {tk : Nat} {cs : List PV} (ht : h.blk tk = some cs) :
    HRel w0 Z0 ρ (h.set tk (cs.map PV.nrm0)) w ∧ ∀ pv u, V ρ (Zof Z0 ρ h) w pv u → V ρ (Zof Z0 ρ (h.set tk (cs.map PV.nrm0))) w pv u := by
  have hZ : ∀ k, Zof Z0 ρ (h.set tk (cs.map PV.nrm0)) k → Zof Z0 ρ h k := by
    rintro k (hk | ⟨x, c, o', h1, h2⟩ | hk)
    · exact .inl hk
    · by_cases e : x = tk
      · subst e; exact .inr (.inl ⟨x, cs, o', ht, h2⟩)
      · rw [HP.set_other _ _ e] at h1; exact .inr (.inl ⟨x, c, o', h1, h2⟩)
    · exact .inr (.inr hk)
  have up : ∀ pv u, V ρ (Zof Z0 ρ h) w pv u → V ρ (Zof Z0 ρ (h.set tk (cs.map PV.nrm0))) w pv u := fun pv u hV => hV.ext (Ext.refl _ _) (fun k _ hk => hZ k hk) (fun _ _ h => h)
  have back : ∀ x c, (h.set tk (cs.map PV.nrm0)).blk x = some c → ∃ c', h.blk x = some c' := fun x c hc => by
    by_cases e : x = tk
    · subst e; exact ⟨cs, ht⟩
    · rw [HP.set_other _ _ e] at hc; exact ⟨c, hc⟩
  refine ⟨⟨H.below, H.z0, fun x c h1 => ?_, fun x x' c c' k o1 o2 h1 h2 r1 r2 => ?_, fun x hx => ?_, fun x c h1 => ?_, H.sinj, fun x hw => ?_⟩, up⟩
  · by_cases e : x = tk
    · subst e
      rw [HP.set_same] at h1; cases h1
      rcases H.live x cs ht with ⟨hn, hn2⟩ | ⟨b2, o2, a2, T2, g1, g2, g3, g4, g5⟩
      · exact .inl ⟨by rw [hn]; simp, hn2⟩
      · refine .inr ⟨b2, o2, a2, T2, g1, g2, g3, by simpa using g4, fun i hi => up _ _ ?_⟩
        have hi' : i < cs.length := by simpa using hi
        have := (g5 i hi').nrm0
        simp only [List.getD, hi', List.getElem?_eq_getElem, Option.getD_some] at this
        simp only [List.getD, List.getElem?_map, hi', List.getElem?_eq_getElem, Option.getD_some, Option.map_some]
        exact this
    · rw [HP.set_other _ _ e] at h1
      rcases H.live x c h1 with hn | ⟨b2, o2, a2, T2, g1, g2, g3, g4, g5⟩
      · exact .inl hn
      · exact .inr ⟨b2, o2, a2, T2, g1, g2, g3, g4, fun i hi => up _ _ (g5 i hi)⟩
  · obtain ⟨d1, k1⟩ := back x c h1
    obtain ⟨d2, k2⟩ := back x' c' h2
    exact H.inj x x' d1 d2 k o1 o2 k1 k2 r1 r2
  · have := H.free x hx
    have e : x ≠ tk := fun e => by rw [e, ht] at this; cases this.1
    exact ⟨by rw [HP.set_other _ _ e]; exact this.1, this.2⟩
  · obtain ⟨b, obj, g1, g2, g3, g4⟩ := H.slive x c h1
    exact ⟨b, obj, g1, g2, g3, g4.ext (fun _ _ _ => rfl) (Nat.le_refl _) (fun k _ _ _ _ hz hz' => hz (hZ k hz'))⟩
  · obtain ⟨q1, q2, q3⟩ := H.wfree x hw
    exact ⟨by rw [HP.set_other _ _ (fun e => by rw [e, ht] at q1; cases q1)]; exact q1, q2, q3⟩
/-- what a variable holds, its capacities forgotten -/
theorem CW.nrmB {c : Code} (tk : Nat) {cs r : List PV} (hb : h.blk tk = some cs) (hr : cs.map PV.nrm0 = r) (hk : CW P T M n c ⟨t, h.set tk r⟩ Q) : CW P T M n c ⟨t, h⟩ Q := by
  subst hr
  refine ⟨fun h1 h2 h3 => ?_⟩
  have h4 := hk.out h1 h2 h3
  intro E w0 Z0 ρ a w R
  obtain ⟨H', up⟩ := R.heap.nrm hb
  exact h4 E w0 Z0 ρ a w ⟨R.defers, R.size, fun x => up _ _ (R.tmps x), H', fun p u h => up _ _ (R.mem p u h)⟩
/-- what holds at a point in between -/
theorem CW.midS {ι : Type} {c : Code} {s : AS} {next : AS → Prop} (C : ι → Prop) (sl : ι → List (Nat × PV)) (hp : ι → HP → Prop) (h1 : CW P T M n c s (TQ (fun s' => ∃ i, C i ∧ allS (sl i) s'.tmps ∧ hp i s'.hp) Q)) (h2 : ∀ i t h, C i → hp i h → next ⟨updS (sl i) t, h⟩) : CW P T M n c s (TQ next Q) := by
  refine ⟨fun q1 q2 q3 => .mono (h1.out q1 q2 q3) (fun e s' hh => ⟨?_⟩)⟩
  have := hh.out
  cases e with
  | normal =>
    obtain ⟨i, k1, k2, k3⟩ := this
    have := h2 i s'.tmps s'.hp k1 k3
    rw [updS_eta _ _ k2] at this
    exact this
  | _ => exact this
theorem CW.midB {ι : Type} {c : Code} {s : AS} {id : Nat} {next : AS → Prop} (C : ι → Prop) (sl : ι → List (Nat × PV)) (hp : ι → HP → Prop) (h1 : CW P T M n c s (BQ id (TQ (fun s' => ∃ i, C i ∧ allS (sl i) s'.tmps ∧ hp i s'.hp) Q))) (h2 : ∀ i t h, C i → hp i h → next ⟨updS (sl i) t, h⟩) : CW P T M n c s (BQ id (TQ next Q)) := by
  have key : ∀ s', (∃ i, C i ∧ allS (sl i) s'.tmps ∧ hp i s'.hp) → next s' := fun s' ⟨i, k1, k2, k3⟩ => by
    have := h2 i s'.tmps s'.hp k1 k3
    rw [updS_eta _ _ k2] at this
    exact this
  have key2 : ∀ e s', TQ (fun s' => ∃ i, C i ∧ allS (sl i) s'.tmps ∧ hp i s'.hp) Q e s' → TQ next Q e s' := fun e s' hh => ⟨by
    have := hh.out
    cases e with
    | normal => exact key s' this
    | _ => exact this⟩
  refine ⟨fun q1 q2 q3 => .mono (h1.out q1 q2 q3) (fun e s' hh => ⟨?_⟩)⟩
  have := hh.out
  cases e with
  | exit id' => exact ⟨fun e => key2 _ _ (this.1 e), fun e => key2 _ _ (this.2 e)⟩
  | _ => exact key2 _ _ this
end Go.Proofs.Ytenoiklocdoemaa

/- Laurent polynomials as a lowest exponent and a list of coefficients: the plain facts. Nothing of the program is here. -/
set_option linter.unusedVariables false
set_option linter.unusedSimpArgs false
namespace Go.Proofs.Ytenoiklocdoemaa

abbrev Po := Int × List Int
def co (p : Po) (e : Int) : Int := if p.1 ≤ e then p.2.getD (e - p.1).toNat 0 else 0
def canon (p : Po) : Prop := (p.2 = [] ∧ p.1 = 0) ∨ (p.2 ≠ [] ∧ p.2.getD 0 0 ≠ 0 ∧ p.2.getD (p.2.length - 1) 0 ≠ 0)
theorem getD_out {xs : List Int} {k : Nat} (h : xs.length ≤ k) : xs.getD k 0 = 0 := by
  simp [List.getD, h]
theorem co_lo {p : Po} {e : Int} (h : e < p.1) : co p e = 0 := if_neg (by omega)
theorem co_hi {p : Po} {e : Int} (h : p.1 + p.2.length ≤ e) : co p e = 0 := by
  unfold co
  rw [if_pos (by omega), getD_out (by omega)]
theorem co_in {p : Po} {e : Int} (h : co p e ≠ 0) : p.1 ≤ e ∧ e < p.1 + p.2.length := by
  constructor
  · apply Classical.byContradiction; intro c; exact h (co_lo (by omega))
  · apply Classical.byContradiction; intro c; exact h (co_hi (by omega))
theorem co_at (p : Po) (k : Nat) : co p (p.1 + k) = p.2.getD k 0 := by
  unfold co
  rw [if_pos (by omega), show (p.1 + (k : Int) - p.1).toNat = k by omega]
theorem co_nil (e l : Int) : co (l, []) e = 0 := by unfold co; split <;> simp
theorem canon_uniq {p q : Po} (hp : canon p) (hq : canon q) (h : ∀ e, co p e = co q e) : p = q := by
  obtain ⟨l, c⟩ := p
  obtain ⟨l', c'⟩ := q
  rcases hp with ⟨rfl, rfl⟩ | ⟨p1, p2, p3⟩
  · rcases hq with ⟨rfl, rfl⟩ | ⟨q1, q2, q3⟩
    · rfl
    · exfalso
      have := h (l' + (0 : Nat))
      rw [co_at (l', c'), co_nil] at this
      exact q2 this.symm
  · have hc : 0 < c.length := List.length_pos_iff.2 p1
    rcases hq with ⟨rfl, rfl⟩ | ⟨q1, q2, q3⟩
    · exfalso
      have := h (l + (0 : Nat))
      rw [co_at (l, c), co_nil] at this
      exact p2 this
    · have hc' : 0 < c'.length := List.length_pos_iff.2 q1
      have a1 := co_in (p := (l', c')) (e := l + (0 : Nat)) (by rw [← h, co_at (l, c)]; exact p2)
      have a2 := co_in (p := (l, c)) (e := l' + (0 : Nat)) (by rw [h, co_at (l', c')]; exact q2)
      have a3 := co_in (p := (l', c')) (e := l + (c.length - 1 : Nat)) (by rw [← h, co_at (l, c)]; exact p3)
      have a4 := co_in (p := (l, c)) (e := l' + (c'.length - 1 : Nat)) (by rw [h, co_at (l', c')]; exact q3)
      simp only at a1 a2 a3 a4
      have e1 : l = l' := by omega
      subst e1
      have e2 : c.length = c'.length := by omega
      congr 1
      apply List.ext_getElem e2
      intro i h1 h2
      have := h (l + i)
      rw [co_at (l, c), co_at (l, c')] at this
      simp only at this
      rwa [getD_lt 0 h1, getD_lt 0 h2] at this
/-- the polynomial in its normal form that has these coefficients -/
noncomputable def cano (F : Int → Int) : Po := @dite _ (∃ p, canon p ∧ ∀ e, co p e = F e) (Classical.propDecidable _) (fun h => Classical.choose h) (fun _ => (0, []))
theorem cano_eq {F : Int → Int} {p : Po} (h1 : canon p) (h2 : ∀ e, co p e = F e) : cano F = p := by
  have hex : ∃ p, canon p ∧ ∀ e, co p e = F e := ⟨p, h1, h2⟩
  unfold cano
  rw [dif_pos hex]
  obtain ⟨g1, g2⟩ := Classical.choose_spec hex
  exact canon_uniq g1 h1 (fun e => by rw [g2, h2])
theorem canon_zero : canon (0, []) := .inl ⟨rfl, rfl⟩
theorem cano_zero {F : Int → Int} (h : ∀ e, F e = 0) : cano F = (0, []) := cano_eq canon_zero (fun e => by rw [co_nil, h])
theorem canon_slice {low : Int} {c : List Int} {f l : Nat} (hf : f < l) (hl : l ≤ c.length) (h1 : c.getD f 0 ≠ 0) (h2 : c.getD (l - 1) 0 ≠ 0) (h3 : ∀ j, j < f → c.getD j 0 = 0) (h4 : ∀ j, l ≤ j → c.getD j 0 = 0) :
    cano (co (low, c)) = (low + f, (c.take l).drop f) := by
  have hlen : ((c.take l).drop f).length = l - f := by simp; omega
  have hg : ∀ j, j < l - f → ((c.take l).drop f).getD j 0 = c.getD (f + j) 0 := fun j hj => by
    simp only [List.getD, List.getElem?_drop, List.getElem?_take]
    rw [if_pos (by omega)]
  refine cano_eq (.inr ⟨?_, ?_, ?_⟩) (fun e => ?_)
  · intro e; have := congrArg List.length e; simp at this; omega
  · simp only
    rw [hg 0 (by omega)]; simpa using h1
  · simp only
    rw [hlen, hg _ (by omega), show f + (l - f - 1) = l - 1 by omega]; exact h2
  · unfold co
    simp only
    by_cases c1 : low ≤ e
    · rw [if_pos c1]
      by_cases c2 : low + f ≤ e
      · rw [if_pos c2]
        by_cases c3 : (e - (low + f)).toNat < l - f
        · rw [hg _ c3]; congr 1; omega
        · rw [getD_out (by omega), h4 _ (by omega)]
      · rw [if_neg c2, h3 _ (by omega)]
    · rw [if_neg (by omega), if_neg c1]
theorem canon_none {low : Int} {c : List Int} (h : ∀ j, j < c.length → c.getD j 0 = 0) : cano (co (low, c)) = (0, []) := cano_zero (fun e => by
  unfold co
  split
  · by_cases hj : (e - low).toNat < c.length
    · exact h _ hj
    · exact getD_out (by simp only; omega)
  · rfl)

/-- a list by its elements -/
def tab (n : Nat) (G : Nat → Int) : List Int := (List.range n).map G
@[simp] theorem tab_length (n : Nat) (G : Nat → Int) : (tab n G).length = n := by simp [tab]
theorem tab_get {n : Nat} {G : Nat → Int} {i : Nat} (h : i < n) : (tab n G).getD i 0 = G i := by simp [tab, List.getD, h]
theorem tab_eq {n : Nat} {G : Nat → Int} {c : List Int} (h : c.length = n) (hg : ∀ i, i < n → c.getD i 0 = G i) : c = tab n G := by
  apply List.ext_getElem (by simp [h])
  intro i h1 h2
  rw [← getD_lt 0 h1, ← getD_lt 0 h2, hg i (by omega), tab_get (by omega)]
theorem tab_set {n : Nat} {G : Nat → Int} {k : Nat} {v : Int} : (tab n G).set k v = tab n (fun i => if i = k then v else G i) := by
  refine tab_eq (by simp) (fun i hi => ?_)
  simp only [List.getD, List.getElem?_set, tab_length]
  by_cases e : k = i
  · subst e; simp [hi]
  · rw [if_neg e, if_neg (fun h => e h.symm)]
    have := tab_get (G := G) hi
    simpa [List.getD] using this
theorem tab_congr {n : Nat} {G G' : Nat → Int} (h : ∀ i, i < n → G i = G' i) : tab n G = tab n G' := tab_eq (by simp) (fun i hi => by rw [tab_get hi, h i hi])
theorem tab_zero (n : Nat) : List.replicate n (0 : Int) = tab n (fun _ => 0) := tab_eq (by simp) (fun i hi => by simp [List.getD, hi])
theorem co_tab {low : Int} {n : Nat} {F : Int → Int} (h : ∀ e, F e ≠ 0 → low ≤ e ∧ e < low + n) : co (low, tab n (fun j => F (low + j))) = F := by
  funext e
  unfold co
  simp only
  by_cases c1 : low ≤ e
  · rw [if_pos c1]
    by_cases c2 : (e - low).toNat < n
    · rw [tab_get c2]; congr 1; omega
    · rw [getD_out (by simp; omega)]
      apply Classical.byContradiction; intro c
      have := h e (fun hh => c hh.symm); omega
  · rw [if_neg c1]
    apply Classical.byContradiction; intro c
    have := h e (fun hh => c hh.symm); omega
theorem acc_get {low : Int} {n : Nat} {G : Int → Int} {zs : List Int} (hzs : zs = tab n (fun j => G (low + j))) {q : Nat} {e : Int} (hq : (q : Int) = e - low) (h2 : e < low + n) : zs.getD q 0 = G e := by
  subst hzs
  rw [tab_get (by omega)]; congr 1; omega
/-- the first i coefficients -/
def coT (p : Po) (i : Nat) (e : Int) : Int := if p.1 ≤ e ∧ e < p.1 + i then co p e else 0
theorem coT_zero (p : Po) (e : Int) : coT p 0 e = 0 := if_neg (by omega)
theorem coT_succ (p : Po) (i : Nat) (e : Int) : coT p (i + 1) e = coT p i e + (if e = p.1 + i then p.2.getD i 0 else 0) := by
  unfold coT
  by_cases h : e = p.1 + i
  · subst h
    rw [if_pos (by omega), if_neg (by omega), if_pos rfl, co_at]; omega
  · rw [if_neg h]
    by_cases h2 : p.1 ≤ e ∧ e < p.1 + i
    · rw [if_pos (by omega), if_pos h2]; omega
    · rw [if_neg (by omega), if_neg h2]; omega
theorem coT_all (p : Po) (e : Int) : coT p p.2.length e = co p e := by
  unfold coT
  by_cases h : p.1 ≤ e ∧ e < p.1 + p.2.length
  · rw [if_pos h]
  · rw [if_neg h]
    by_cases h2 : e < p.1
    · rw [co_lo h2]
    · rw [co_hi (by omega)]
theorem coT_bd {p : Po} {B : Int} (hB : 0 ≤ B) (h : ∀ x ∈ p.2, -B ≤ x ∧ x ≤ B) (i : Nat) (e : Int) : -B ≤ coT p i e ∧ coT p i e ≤ B := by
  unfold coT co
  split
  · split
    · by_cases hj : (e - p.1).toNat < p.2.length
      · rw [getD_lt 0 hj]; exact h _ (List.getElem_mem hj)
      · rw [getD_out (by omega)]; omega
    · omega
  · omega
theorem co_bd {p : Po} {B : Int} (hB : 0 ≤ B) (h : ∀ x ∈ p.2, -B ≤ x ∧ x ≤ B) (e : Int) : -B ≤ co p e ∧ co p e ≤ B := by
  rw [← coT_all]; exact coT_bd hB h _ _
end Go.Proofs.Ytenoiklocdoemaa
