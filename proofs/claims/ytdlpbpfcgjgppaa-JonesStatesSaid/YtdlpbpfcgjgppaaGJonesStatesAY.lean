/- Facts and contracts that the claim uses. No condition of its own. -/
import Derived.Test.YtdlpbpfcgjgppaaGJonesStatesAU
import Derived.Test.YtdlpbpfcgjgppaaGJonesStatesAX
import Derived.Test.YtdlpbpfcgjgppaaGJonesStatesAA
set_option linter.unusedVariables false
set_option linter.unusedSimpArgs false
namespace Go.Proofs.Ytdlpbpfcgjgppaa
open Go.RowKit
def delE (D f : FuncId) (zs : List Int) (us : List Value) : Option (List Int) :=
  match us with
  | [.int .i64 (.ofNat i), .int .i64 (.ofNat j)] => bif Nat.beq f D && Nat.ble i j && Nat.ble j zs.length then some (zs.take i ++ zs.drop j) else none
  | _ => none
def delLib (D : FuncId) : Cal := ⟨fun _ _ _ => none, fun _ _ => none, fun _ _ => none, delE D⟩
theorem delLib_ok : CalOk Try.prog (delLib 92) := by
  refine ⟨fun _ _ _ _ _ h => (by cases h), fun _ _ _ h => (by cases h), fun _ _ _ _ _ h => (by cases h), fun f zs us ys he => ?_⟩
  simp only [delLib, delE] at he
  split at he
  · obtain ⟨hb, he⟩ := cond_some he
    cases he
    simp only [Bool.and_eq_true, Nat.beq_eq, Nat.ble_eq] at hb
    obtain ⟨⟨h1, h4⟩, h5⟩ := hb
    subst h1
    exact delete_m h4 h5
  · cases he
end Go.Proofs.Ytdlpbpfcgjgppaa

/- Facts and contracts that the claim uses. No condition of its own. -/
set_option linter.unusedVariables false
set_option linter.unusedSimpArgs false
namespace Go.Proofs.Ytdlpbpfcgjgppaa
abbrev Po := Int × List Int
def co (p : Po) (e : Int) : Int := if p.1 ≤ e then p.2.getD (e - p.1).toNat 0 else 0
def canon (p : Po) : Prop := (p.2 = [] ∧ p.1 = 0) ∨ (p.2 ≠ [] ∧ p.2.getD 0 0 ≠ 0 ∧ p.2.getD (p.2.length - 1) 0 ≠ 0)
theorem getD_out {xs : List Int} {k : Nat} (h : xs.length ≤ k) : xs.getD k 0 = 0 := by
  simp [List.getD, h]
theorem co_lo {p : Po} {e : Int} (h : e < p.1) : co p e = 0 := if_neg (by omega)
theorem co_hi {p : Po} {e : Int} (h : p.1 + p.2.length ≤ e) : co p e = 0 := by
  unfold co
  rw [if_pos (by omega), getD_out (by omega)]
theorem co_in {p : Po} {e : Int} (h : co p e ≠ 0) : p.1 ≤ e ∧ e < p.1 + p.2.length := by
  constructor
  · apply Classical.byContradiction; intro c; exact h (co_lo (by omega))
  · apply Classical.byContradiction; intro c; exact h (co_hi (by omega))
theorem co_at (p : Po) (k : Nat) : co p (p.1 + k) = p.2.getD k 0 := by
  unfold co
  rw [if_pos (by omega), show (p.1 + (k : Int) - p.1).toNat = k by omega]
theorem co_nil (e l : Int) : co (l, []) e = 0 := by unfold co; split <;> simp
theorem canon_uniq {p q : Po} (hp : canon p) (hq : canon q) (h : ∀ e, co p e = co q e) : p = q := by
  obtain ⟨l, c⟩ := p
  obtain ⟨l', c'⟩ := q
  rcases hp with ⟨rfl, rfl⟩ | ⟨p1, p2, p3⟩
  · rcases hq with ⟨rfl, rfl⟩ | ⟨q1, q2, q3⟩
    · rfl
    · exfalso
      have := h (l' + (0 : Nat))
      rw [co_at (l', c'), co_nil] at this
      exact q2 this.symm
  · have hc : 0 < c.length := List.length_pos_iff.2 p1
    rcases hq with ⟨rfl, rfl⟩ | ⟨q1, q2, q3⟩
    · exfalso
      have := h (l + (0 : Nat))
      rw [co_at (l, c), co_nil] at this
      exact p2 this
    · have hc' : 0 < c'.length := List.length_pos_iff.2 q1
      have a1 := co_in (p := (l', c')) (e := l + (0 : Nat)) (by rw [← h, co_at (l, c)]; exact p2)
      have a2 := co_in (p := (l, c)) (e := l' + (0 : Nat)) (by rw [h, co_at (l', c')]; exact q2)
      have a3 := co_in (p := (l', c')) (e := l + (c.length - 1 : Nat)) (by rw [← h, co_at (l, c)]; exact p3)
      have a4 := co_in (p := (l, c)) (e := l' + (c'.length - 1 : Nat)) (by rw [h, co_at (l', c')]; exact q3)
      simp only at a1 a2 a3 a4
      have e1 : l = l' := by omega
      subst e1
      have e2 : c.length = c'.length := by omega
      congr 1
      apply List.ext_getElem e2
      intro i h1 h2
      have := h (l + i)
      rw [co_at (l, c), co_at (l, c')] at this
      simp only at this
      rwa [getD_lt 0 h1, getD_lt 0 h2] at this
noncomputable def cano (F : Int → Int) : Po := @dite _ (∃ p, canon p ∧ ∀ e, co p e = F e) (Classical.propDecidable _) (fun h => Classical.choose h) (fun _ => (0, []))
theorem cano_eq {F : Int → Int} {p : Po} (h1 : canon p) (h2 : ∀ e, co p e = F e) : cano F = p := by
  have hex : ∃ p, canon p ∧ ∀ e, co p e = F e := ⟨p, h1, h2⟩
  unfold cano
  rw [dif_pos hex]
  obtain ⟨g1, g2⟩ := Classical.choose_spec hex
  exact canon_uniq g1 h1 (fun e => by rw [g2, h2])
theorem canon_zero : canon (0, []) := .inl ⟨rfl, rfl⟩
theorem cano_zero {F : Int → Int} (h : ∀ e, F e = 0) : cano F = (0, []) := cano_eq canon_zero (fun e => by rw [co_nil, h])
theorem canon_slice {low : Int} {c : List Int} {f l : Nat} (hf : f < l) (hl : l ≤ c.length) (h1 : c.getD f 0 ≠ 0) (h2 : c.getD (l - 1) 0 ≠ 0) (h3 : ∀ j, j < f → c.getD j 0 = 0) (h4 : ∀ j, l ≤ j → c.getD j 0 = 0) :
    cano (co (low, c)) = (low + f, (c.take l).drop f) := by
  have hlen : ((c.take l).drop f).length = l - f := by simp; omega
  have hg : ∀ j, j < l - f → ((c.take l).drop f).getD j 0 = c.getD (f + j) 0 := fun j hj => by
    simp only [List.getD, List.getElem?_drop, List.getElem?_take]
    rw [if_pos (by omega)]
  refine cano_eq (.inr ⟨?_, ?_, ?_⟩) (fun e => ?_)
  · intro e; have := congrArg List.length e; simp at this; omega
  · simp only
    rw [hg 0 (by omega)]; simpa using h1
  · simp only
    rw [hlen, hg _ (by omega), show f + (l - f - 1) = l - 1 by omega]; exact h2
  · unfold co
    simp only
    by_cases c1 : low ≤ e
    · rw [if_pos c1]
      by_cases c2 : low + f ≤ e
      · rw [if_pos c2]
        by_cases c3 : (e - (low + f)).toNat < l - f
        · rw [hg _ c3]; congr 1; omega
        · rw [getD_out (by omega), h4 _ (by omega)]
      · rw [if_neg c2, h3 _ (by omega)]
    · rw [if_neg (by omega), if_neg c1]
theorem canon_none {low : Int} {c : List Int} (h : ∀ j, j < c.length → c.getD j 0 = 0) : cano (co (low, c)) = (0, []) := cano_zero (fun e => by
  unfold co
  split
  · by_cases hj : (e - low).toNat < c.length
    · exact h _ hj
    · exact getD_out (by simp only; omega)
  · rfl)
def tab (n : Nat) (G : Nat → Int) : List Int := (List.range n).map G
@[simp] theorem tab_length (n : Nat) (G : Nat → Int) : (tab n G).length = n := by simp [tab]
theorem tab_get {n : Nat} {G : Nat → Int} {i : Nat} (h : i < n) : (tab n G).getD i 0 = G i := by simp [tab, List.getD, h]
theorem tab_eq {n : Nat} {G : Nat → Int} {c : List Int} (h : c.length = n) (hg : ∀ i, i < n → c.getD i 0 = G i) : c = tab n G := by
  apply List.ext_getElem (by simp [h])
  intro i h1 h2
  rw [← getD_lt 0 h1, ← getD_lt 0 h2, hg i (by omega), tab_get (by omega)]
theorem tab_set {n : Nat} {G : Nat → Int} {k : Nat} {v : Int} : (tab n G).set k v = tab n (fun i => if i = k then v else G i) := by
  refine tab_eq (by simp) (fun i hi => ?_)
  simp only [List.getD, List.getElem?_set, tab_length]
  by_cases e : k = i
  · subst e; simp [hi]
  · rw [if_neg e, if_neg (fun h => e h.symm)]
    have := tab_get (G := G) hi
    simpa [List.getD] using this
theorem tab_congr {n : Nat} {G G' : Nat → Int} (h : ∀ i, i < n → G i = G' i) : tab n G = tab n G' := tab_eq (by simp) (fun i hi => by rw [tab_get hi, h i hi])
theorem tab_zero (n : Nat) : List.replicate n (0 : Int) = tab n (fun _ => 0) := tab_eq (by simp) (fun i hi => by simp [List.getD, hi])
theorem co_tab {low : Int} {n : Nat} {F : Int → Int} (h : ∀ e, F e ≠ 0 → low ≤ e ∧ e < low + n) : co (low, tab n (fun j => F (low + j))) = F := by
  funext e
  unfold co
  simp only
  by_cases c1 : low ≤ e
  · rw [if_pos c1]
    by_cases c2 : (e - low).toNat < n
    · rw [tab_get c2]; congr 1; omega
    · rw [getD_out (by simp; omega)]
      apply Classical.byContradiction; intro c
      have := h e (fun hh => c hh.symm); omega
  · rw [if_neg c1]
    apply Classical.byContradiction; intro c
    have := h e (fun hh => c hh.symm); omega
theorem acc_get {low : Int} {n : Nat} {G : Int → Int} {zs : List Int} (hzs : zs = tab n (fun j => G (low + j))) {q : Nat} {e : Int} (hq : (q : Int) = e - low) (h2 : e < low + n) : zs.getD q 0 = G e := by
  subst hzs
  rw [tab_get (by omega)]; congr 1; omega
def coT (p : Po) (i : Nat) (e : Int) : Int := if p.1 ≤ e ∧ e < p.1 + i then co p e else 0
theorem coT_zero (p : Po) (e : Int) : coT p 0 e = 0 := if_neg (by omega)
theorem coT_succ (p : Po) (i : Nat) (e : Int) : coT p (i + 1) e = coT p i e + (if e = p.1 + i then p.2.getD i 0 else 0) := by
  unfold coT
  by_cases h : e = p.1 + i
  · subst h
    rw [if_pos (by omega), if_neg (by omega), if_pos rfl, co_at]; omega
  · rw [if_neg h]
    by_cases h2 : p.1 ≤ e ∧ e < p.1 + i
    · rw [if_pos (by omega), if_pos h2]; omega
    · rw [if_neg (by omega), if_neg h2]; omega
theorem coT_all (p : Po) (e : Int) : coT p p.2.length e = co p e := by
  unfold coT
  by_cases h : p.1 ≤ e ∧ e < p.1 + p.2.length
  · rw [if_pos h]
  · rw [if_neg h]
    by_cases h2 : e < p.1
    · rw [co_lo h2]
    · rw [co_hi (by omega)]
theorem coT_bd {p : Po} {B : Int} (hB : 0 ≤ B) (h : ∀ x ∈ p.2, -B ≤ x ∧ x ≤ B) (i : Nat) (e : Int) : -B ≤ coT p i e ∧ coT p i e ≤ B := by
  unfold coT co
  split
  · split
    · by_cases hj : (e - p.1).toNat < p.2.length
      · rw [getD_lt 0 hj]; exact h _ (List.getElem_mem hj)
      · rw [getD_out (by omega)]; omega
    · omega
  · omega
theorem co_bd {p : Po} {B : Int} (hB : 0 ≤ B) (h : ∀ x ∈ p.2, -B ≤ x ∧ x ≤ B) (e : Int) : -B ≤ co p e ∧ co p e ≤ B := by
  rw [← coT_all]; exact coT_bd hB h _ _
end Go.Proofs.Ytdlpbpfcgjgppaa

/- Facts and contracts that the claim uses. No condition of its own. -/
set_option linter.unusedVariables false
set_option linter.unusedSimpArgs false
namespace Go.Proofs.Ytdlpbpfcgjgppaa
open Go.RowKit
set_option maxHeartbeats 2000000 in
set_option maxRecDepth 100000 in
theorem indexFunc_none {xs : List Int} {f : FuncId} {cap : List PV} (hx : xs.length ≤ 1000000) (hcl : PV.cl.clL cap = true) (h : ∀ k, k < xs.length → SC Try.prog f (pint (xs.getD k 0) :: cap) (.sc (.bool false))) : SC Try.prog 72 [pli xs, .clo f cap] (pint (-1)) := by
  refine SC.go {} tok mixed Try.func72 rfl rfl Try.ntmps72 rfl rfl (by kernel_rfl) ?_
  first | simp only [updS] | simp only [updL, Nat.reduceAdd]
  repeat (first | refine S0 ?_ | refine S1 ?_ | refine S2 ?_ | refine S4 ?_ | refine S5 ?_ | refine S6 ?_ | refine S7 ?_ | refine S8 ?_ | refine S10 ?_ | refine S11 ?_ | refine S13 ?_ | refine S15 ?_ | refine S16 ?_ | refine S19 ?_ | refine S20 ?_ | refine S21 ?_ | refine S22 ?_ | refine S23 ?_ | refine S25 ?_ | refine S26 ?_)
  refine CW.loopS (fun k : Nat => k ≤ xs.length) (fun k => [(0, pli xs), (1, .clo f cap), (7, pint xs.length), (8, pint k)]) (fun _ _ => True) (fun k => xs.length - k) 0 ⟨by omega, SLx, trivial⟩ ?_
  rintro k t hp hk _
  first | simp only [updS] | simp only [updL, Nat.reduceAdd]
  by_cases hk2 : k < xs.length
  · have hs := h k hk2
    repeat (first | refine S0 ?_ | refine S1 ?_ | refine S2 ?_ | refine S4 ?_ | refine S5 ?_ | refine S6 ?_ | refine S7 ?_ | refine S8 ?_ | refine S10 ?_ | refine S11 ?_ | refine S13 ?_ | refine S15 ?_ | refine S16 ?_ | refine S19 ?_ | refine S20 ?_ | refine S21 ?_ | refine S22 ?_ | refine S23 ?_ | refine S25 ?_ | refine S26 ?_)
    refine Scallv (args := pint (xs.getD k 0) :: cap) hs ?_ (hc := by simp only [PV.cl.clL, pint_cl, hcl, Bool.and_self])
    repeat (first | refine S0 ?_ | refine S1 ?_ | refine S2 ?_ | refine S4 ?_ | refine S5 ?_ | refine S6 ?_ | refine S7 ?_ | refine S8 ?_ | refine S10 ?_ | refine S11 ?_ | refine S13 ?_ | refine S15 ?_ | refine S16 ?_ | refine S19 ?_ | refine S20 ?_ | refine S21 ?_ | refine S22 ?_ | refine S23 ?_ | refine S25 ?_ | refine S26 ?_)
    exact ⟨k + 1, by omega, SLx, trivial, by omega⟩
  · repeat (first | refine S0 ?_ | refine S1 ?_ | refine S2 ?_ | refine S4 ?_ | refine S5 ?_ | refine S6 ?_ | refine S7 ?_ | refine S8 ?_ | refine S10 ?_ | refine S11 ?_ | refine S13 ?_ | refine S15 ?_ | refine S16 ?_ | refine S19 ?_ | refine S20 ?_ | refine S21 ?_ | refine S22 ?_ | refine S23 ?_ | refine S25 ?_ | refine S26 ?_)
    exact ⟨.inr rfl, .cl rfl⟩
set_option maxHeartbeats 2000000 in
set_option maxRecDepth 100000 in
theorem indexFunc_some {xs : List Int} {f : FuncId} {cap : List PV} (hx : xs.length ≤ 1000000) (hcl : PV.cl.clL cap = true) {m : Nat} (hm : m < xs.length) (h : ∀ k, k < m → SC Try.prog f (pint (xs.getD k 0) :: cap) (.sc (.bool false))) (h2 : SC Try.prog f (pint (xs.getD m 0) :: cap) (.sc (.bool true))) : SC Try.prog 72 [pli xs, .clo f cap] (pint m) := by
  refine SC.go {} tok mixed Try.func72 rfl rfl Try.ntmps72 rfl rfl (by kernel_rfl) ?_
  first | simp only [updS] | simp only [updL, Nat.reduceAdd]
  repeat (first | refine S0 ?_ | refine S1 ?_ | refine S2 ?_ | refine S4 ?_ | refine S5 ?_ | refine S7 ?_ | refine S8 ?_ | refine S9 ?_ | refine S11 ?_ | refine S12 ?_ | refine S15 ?_ | refine S16 ?_ | refine S19 ?_ | refine S20 ?_ | refine S21 ?_ | refine S22 ?_ | refine S23 ?_ | refine S25 ?_ | refine S26 ?_)
  refine CW.loopS (fun k : Nat => k ≤ m) (fun k => [(0, pli xs), (1, .clo f cap), (7, pint xs.length), (8, pint k)]) (fun _ _ => True) (fun k => xs.length - k) 0 ⟨by omega, SLx, trivial⟩ ?_
  rintro k t hp hk _
  first | simp only [updS] | simp only [updL, Nat.reduceAdd]
  by_cases hk2 : k < m
  · have hs := h k hk2
    repeat (first | refine S0 ?_ | refine S1 ?_ | refine S2 ?_ | refine S4 ?_ | refine S5 ?_ | refine S7 ?_ | refine S8 ?_ | refine S9 ?_ | refine S11 ?_ | refine S12 ?_ | refine S15 ?_ | refine S16 ?_ | refine S19 ?_ | refine S20 ?_ | refine S21 ?_ | refine S22 ?_ | refine S23 ?_ | refine S25 ?_ | refine S26 ?_)
    refine Scallv (args := pint (xs.getD k 0) :: cap) hs ?_ (hc := by simp only [PV.cl.clL, pint_cl, hcl, Bool.and_self])
    repeat (first | refine S0 ?_ | refine S1 ?_ | refine S2 ?_ | refine S4 ?_ | refine S5 ?_ | refine S7 ?_ | refine S8 ?_ | refine S9 ?_ | refine S11 ?_ | refine S12 ?_ | refine S15 ?_ | refine S16 ?_ | refine S19 ?_ | refine S20 ?_ | refine S21 ?_ | refine S22 ?_ | refine S23 ?_ | refine S25 ?_ | refine S26 ?_)
    exact ⟨k + 1, by omega, SLx, trivial, by omega⟩
  · obtain rfl : k = m := by omega
    repeat (first | refine S0 ?_ | refine S1 ?_ | refine S2 ?_ | refine S4 ?_ | refine S5 ?_ | refine S7 ?_ | refine S8 ?_ | refine S9 ?_ | refine S11 ?_ | refine S12 ?_ | refine S15 ?_ | refine S16 ?_ | refine S19 ?_ | refine S20 ?_ | refine S21 ?_ | refine S22 ?_ | refine S23 ?_ | refine S25 ?_ | refine S26 ?_)
    refine Scallv (args := pint (xs.getD k 0) :: cap) h2 ?_ (hc := by simp only [PV.cl.clL, pint_cl, hcl, Bool.and_self])
    repeat (first | refine S0 ?_ | refine S1 ?_ | refine S2 ?_ | refine S4 ?_ | refine S5 ?_ | refine S7 ?_ | refine S8 ?_ | refine S9 ?_ | refine S11 ?_ | refine S12 ?_ | refine S15 ?_ | refine S16 ?_ | refine S19 ?_ | refine S20 ?_ | refine S21 ?_ | refine S22 ?_ | refine S23 ?_ | refine S25 ?_ | refine S26 ?_)
    exact ⟨.inr rfl, .cl rfl⟩
set_option maxHeartbeats 2000000 in
set_option maxRecDepth 100000 in
theorem containsFunc_x {xs : List Int} {f : FuncId} {cap : List PV} {z : Int} {b : Bool} (hcl : PV.cl.clL cap = true) (h : SC Try.prog 72 [pli xs, .clo f cap] (pint z)) (hb : decide (0 ≤ z) = b) : SC Try.prog 45 [pli xs, .clo f cap] (.sc (.bool b)) := by
  refine SC.go {} tok mixed Try.func45 rfl rfl Try.ntmps45 rfl rfl (by kernel_rfl) ?_
  first | simp only [updS] | simp only [updL, Nat.reduceAdd]
  repeat (first | refine S0 ?_ | refine S1 ?_ | refine S2 ?_ | refine S7 ?_ | refine S8 ?_ | refine S19 ?_ | refine S20 ?_ | refine S32 ?_)
  refine Scall (args := [pli xs, .clo f cap]) h ?_ (hc := by simp only [PV.cl.clL, PV.cl, pli_cl, hcl, Bool.and_self])
  repeat (first | refine S0 ?_ | refine S1 ?_ | refine S2 ?_ | refine S7 ?_ | refine S8 ?_ | refine S19 ?_ | refine S20 ?_ | refine S32 ?_)
  rw [hb]
  exact ⟨.inr rfl, .cl rfl⟩
end Go.Proofs.Ytdlpbpfcgjgppaa

/- Facts and contracts that the claim uses. No condition of its own. -/
set_option linter.unusedVariables false
set_option linter.unusedSimpArgs false
namespace Go.Proofs.Ytdlpbpfcgjgppaa
open Go.RowKit
set_option maxHeartbeats 2000000 in
set_option maxRecDepth 100000 in
theorem isz_s (x : Int) : SC Try.prog 78 [pint x] (.sc (.bool (decide (x = 0)))) := by
  refine SC.go {} tok mixed Try.func78 rfl rfl Try.ntmps78 rfl rfl (by kernel_rfl) ?_
  first | simp only [updS] | simp only [updL, Nat.reduceAdd]
  repeat (first | refine S0 ?_ | refine S1 ?_ | refine S2 ?_ | refine S7 ?_ | refine S8 ?_ | refine S19 ?_ | refine S20 ?_ | refine S28 ?_)
  exact ⟨.inr rfl, .cl rfl⟩
set_option maxHeartbeats 2000000 in
set_option maxRecDepth 100000 in
theorem isnz_s (x : Int) : SC Try.prog 79 [pint x, .lptr [.clo 78 []]] (.sc (.bool (!decide (x = 0)))) := by
  refine SC.go {} tok mixed Try.func79 rfl rfl Try.ntmps79 rfl rfl (by kernel_rfl) ?_
  first | simp only [updS] | simp only [updL, Nat.reduceAdd]
  repeat (first | refine S0 ?_ | refine S1 ?_ | refine S2 ?_ | refine S7 ?_ | refine S8 ?_ | refine S19 ?_ | refine S20 ?_ | refine S26 ?_ | refine S36 ?_)
  refine Scallv (args := [pint x]) (isz_s x) ?_
  repeat (first | refine S0 ?_ | refine S1 ?_ | refine S2 ?_ | refine S7 ?_ | refine S8 ?_ | refine S19 ?_ | refine S20 ?_ | refine S26 ?_ | refine S36 ?_)
  exact ⟨.inr rfl, .cl rfl⟩
set_option maxHeartbeats 2000000 in
set_option maxRecDepth 100000 in
theorem trim_s (low : Int) (c : List Int) (hlow : -1000000000000 ≤ low ∧ low ≤ 1000000000000) (hc : c.length ≤ 1000000) : SC Try.prog 55 [pint low, pli c] (ppo (cano (co (low, c)))) := by
  refine SC.go {} tok mixed Try.func55 rfl rfl Try.ntmps55 rfl rfl (by kernel_rfl) ?_
  first | simp only [updS] | simp only [updL, Nat.reduceAdd]
  iterate 11 (first | refine S0 ?_ | refine S1 ?_ | refine S2 ?_ | refine S3 ?_ | refine S4 ?_ | refine S5 ?_ | refine S6 ?_ | refine S7 ?_ | refine S8 ?_ | refine S9 ?_ | refine S10 ?_ | refine S11 ?_ | refine S13 ?_ | refine S15 ?_ | refine S16 ?_ | refine S19 ?_ | refine S20 ?_ | refine S21 ?_ | refine S22 ?_ | refine S23 ?_ | refine S25 ?_ | refine S26 ?_ | refine S33 ?_ | refine S56 ?_ | refine S61 ?_ | refine S65 ?_ | refine S66 ?_ | refine S68 ?_ | refine S69 ?_)
  refine CW.freezeP 5 rfl HBx ?_
  repeat (first | refine S0 ?_ | refine S1 ?_ | refine S2 ?_ | refine S3 ?_ | refine S4 ?_ | refine S5 ?_ | refine S6 ?_ | refine S7 ?_ | refine S8 ?_ | refine S9 ?_ | refine S10 ?_ | refine S11 ?_ | refine S13 ?_ | refine S15 ?_ | refine S16 ?_ | refine S19 ?_ | refine S20 ?_ | refine S21 ?_ | refine S22 ?_ | refine S23 ?_ | refine S25 ?_ | refine S26 ?_ | refine S33 ?_ | refine S56 ?_ | refine S61 ?_ | refine S65 ?_ | refine S66 ?_ | refine S68 ?_ | refine S69 ?_)
  by_cases hz : ∀ j, j < c.length → c.getD j 0 = 0
  · rw [canon_none hz]
    refine Scall (args := [pli c, .clo 79 [.lptr [.clo 78 []]]]) (indexFunc_none hc rfl (fun k hk => ?_)) ?_
    · rw [hz k hk]; exact isnz_s 0
    repeat (first | refine S0 ?_ | refine S1 ?_ | refine S2 ?_ | refine S3 ?_ | refine S4 ?_ | refine S5 ?_ | refine S6 ?_ | refine S7 ?_ | refine S8 ?_ | refine S9 ?_ | refine S10 ?_ | refine S11 ?_ | refine S13 ?_ | refine S15 ?_ | refine S16 ?_ | refine S19 ?_ | refine S20 ?_ | refine S21 ?_ | refine S22 ?_ | refine S23 ?_ | refine S25 ?_ | refine S26 ?_ | refine S33 ?_ | refine S56 ?_ | refine S61 ?_ | refine S65 ?_ | refine S66 ?_ | refine S68 ?_ | refine S69 ?_)
    exact ⟨.inr rfl, FR.cell1 rfl HBx rfl rfl (.nrm rfl)⟩
  · obtain ⟨m, ⟨hm, hm2⟩, hmin⟩ := exists_least (fun j => j < c.length ∧ c.getD j 0 ≠ 0) (by
      apply Classical.byContradiction; intro hh
      exact hz (fun j hj => Classical.byContradiction fun h0 => hh ⟨j, hj, h0⟩))
    refine Scall (args := [pli c, .clo 79 [.lptr [.clo 78 []]]]) (indexFunc_some hc rfl hm (fun k hk => ?_) ?_) ?_
    · rw [show c.getD k 0 = 0 from Classical.byContradiction fun h0 => by have := hmin k ⟨by omega, h0⟩; omega]
      exact isnz_s 0
    · have := isnz_s (c.getD m 0)
      rwa [show decide (c.getD m 0 = 0) = false from decide_eq_false hm2] at this
    repeat (first | refine S0 ?_ | refine S1 ?_ | refine S2 ?_ | refine S3 ?_ | refine S4 ?_ | refine S5 ?_ | refine S6 ?_ | refine S7 ?_ | refine S8 ?_ | refine S9 ?_ | refine S10 ?_ | refine S11 ?_ | refine S13 ?_ | refine S15 ?_ | refine S16 ?_ | refine S19 ?_ | refine S20 ?_ | refine S21 ?_ | refine S22 ?_ | refine S23 ?_ | refine S25 ?_ | refine S26 ?_ | refine S33 ?_ | refine S56 ?_ | refine S61 ?_ | refine S65 ?_ | refine S66 ?_ | refine S68 ?_ | refine S69 ?_)
    refine CW.loopS (fun k : Int => m < k ∧ k ≤ c.length ∧ ∀ j : Nat, k ≤ j → c.getD j 0 = 0) (fun k => [(0, pint low), (1, pli c), (4, .ptr 1 0), (5, .lptr [.clo 78 []]), (6, pint m), (7, pint k)]) (fun _ hp => hp.blk 1 = some [pint 0, .lst true 0 0 []]) (fun k => k.toNat) c.length ⟨⟨by omega, by omega, fun j hj => getD_out (by omega)⟩, SLx, (by (try dsimp only); repeat' (first | exact HBx | exact SBx | refine And.intro ?_ ?_))⟩ ?_
    rintro k t h ⟨h1, h2, h3⟩ hB
    first | simp only [updS] | simp only [updL, Nat.reduceAdd]
    repeat (first | refine S0 ?_ | refine S1 ?_ | refine S2 ?_ | refine S3 ?_ | refine S4 ?_ | refine S5 ?_ | refine S6 ?_ | refine S7 ?_ | refine S8 ?_ | refine S9 ?_ | refine S10 ?_ | refine S11 ?_ | refine S13 ?_ | refine S15 ?_ | refine S16 ?_ | refine S19 ?_ | refine S20 ?_ | refine S21 ?_ | refine S22 ?_ | refine S23 ?_ | refine S25 ?_ | refine S26 ?_ | refine S33 ?_ | refine S56 ?_ | refine S61 ?_ | refine S65 ?_ | refine S66 ?_ | refine S68 ?_ | refine S69 ?_)
    refine Scallv (args := [pint (c.getD (k - 1).toNat 0)]) (isz_s _) ?_
    by_cases c1 : c.getD (k - 1).toNat 0 = 0
    · repeat (first | refine S0 ?_ | refine S1 ?_ | refine S2 ?_ | refine S3 ?_ | refine S4 ?_ | refine S5 ?_ | refine S6 ?_ | refine S7 ?_ | refine S8 ?_ | refine S9 ?_ | refine S10 ?_ | refine S11 ?_ | refine S13 ?_ | refine S15 ?_ | refine S16 ?_ | refine S19 ?_ | refine S20 ?_ | refine S21 ?_ | refine S22 ?_ | refine S23 ?_ | refine S25 ?_ | refine S26 ?_ | refine S33 ?_ | refine S56 ?_ | refine S61 ?_ | refine S65 ?_ | refine S66 ?_ | refine S68 ?_ | refine S69 ?_)
      refine ⟨k - 1, ⟨?_, by omega, fun j hj => ?_⟩, SLx, (by (try dsimp only); repeat' (first | exact HBx | exact SBx | refine And.intro ?_ ?_)), by omega⟩
      · apply Classical.byContradiction; intro hh
        rw [show (k - 1).toNat = m by omega] at c1
        exact hm2 c1
      · by_cases e : j = (k - 1).toNat
        · subst e; exact c1
        · exact h3 j (by omega)
    · repeat (first | refine S0 ?_ | refine S1 ?_ | refine S2 ?_ | refine S3 ?_ | refine S4 ?_ | refine S5 ?_ | refine S6 ?_ | refine S7 ?_ | refine S8 ?_ | refine S9 ?_ | refine S10 ?_ | refine S11 ?_ | refine S13 ?_ | refine S15 ?_ | refine S16 ?_ | refine S19 ?_ | refine S20 ?_ | refine S21 ?_ | refine S22 ?_ | refine S23 ?_ | refine S25 ?_ | refine S26 ?_ | refine S33 ?_ | refine S56 ?_ | refine S61 ?_ | refine S65 ?_ | refine S66 ?_ | refine S68 ?_ | refine S69 ?_)
      refine Scall (args := [pli ((c.take k.toNat).drop m)]) (clone_s _ (by simp; omega)) ?_
      repeat (first | refine S0 ?_ | refine S1 ?_ | refine S2 ?_ | refine S3 ?_ | refine S4 ?_ | refine S5 ?_ | refine S6 ?_ | refine S7 ?_ | refine S8 ?_ | refine S9 ?_ | refine S10 ?_ | refine S11 ?_ | refine S13 ?_ | refine S15 ?_ | refine S16 ?_ | refine S19 ?_ | refine S20 ?_ | refine S21 ?_ | refine S22 ?_ | refine S23 ?_ | refine S25 ?_ | refine S26 ?_ | refine S33 ?_ | refine S56 ?_ | refine S61 ?_ | refine S65 ?_ | refine S66 ?_ | refine S68 ?_ | refine S69 ?_)
      refine Scall (args := [pli ((c.take k.toNat).drop m)]) (clip_s _) ?_
      repeat (first | refine S0 ?_ | refine S1 ?_ | refine S2 ?_ | refine S3 ?_ | refine S4 ?_ | refine S5 ?_ | refine S6 ?_ | refine S7 ?_ | refine S8 ?_ | refine S9 ?_ | refine S10 ?_ | refine S11 ?_ | refine S13 ?_ | refine S15 ?_ | refine S16 ?_ | refine S19 ?_ | refine S20 ?_ | refine S21 ?_ | refine S22 ?_ | refine S23 ?_ | refine S25 ?_ | refine S26 ?_ | refine S33 ?_ | refine S56 ?_ | refine S61 ?_ | refine S65 ?_ | refine S66 ?_ | refine S68 ?_ | refine S69 ?_)
      rw [canon_slice (l := k.toNat) (by omega) (by omega) hm2 (by rw [show k.toNat - 1 = (k - 1).toNat by omega]; exact c1) (fun j hj => Classical.byContradiction fun h0 => by have := hmin j ⟨by omega, h0⟩; omega) (fun j hj => h3 j (by omega))]
      refine ⟨.inr rfl, FR.cell1 rfl HBx rfl rfl ?_⟩
      exact .nrm (by simp only [PV.cl, PV.cl.clL, ints_cl, Bool.and_self])
end Go.Proofs.Ytdlpbpfcgjgppaa

/- Facts and contracts that the claim uses. No condition of its own. -/
set_option linter.unusedVariables false
set_option linter.unusedSimpArgs false
namespace Go.Proofs.Ytdlpbpfcgjgppaa
open Go.RowKit
set_option maxHeartbeats 2000000 in
set_option maxRecDepth 100000 in
theorem term_s (c e : Int) (he : -1000000000000 ≤ e ∧ e ≤ 1000000000000) : SC Try.prog 28 [pint c, pint e] (ppo (cano (co (e, [c])))) := by
  refine SC.go {} tok mixed Try.func28 rfl rfl Try.ntmps28 rfl rfl (by kernel_rfl) ?_
  first | simp only [updS] | simp only [updL, Nat.reduceAdd]
  repeat (first | refine S0 ?_ | refine S1 ?_ | refine S2 ?_ | refine S7 ?_ | refine S8 ?_ | refine S19 ?_ | refine S49 ?_ | refine S66 ?_ | refine S68 ?_)
  refine Scall (args := [pint e, .lst true 1 1 (ints [c])]) (SC.weak (trim_s e [c] he (by simp)) rfl) ?_
  repeat (first | refine S0 ?_ | refine S1 ?_ | refine S2 ?_ | refine S7 ?_ | refine S8 ?_ | refine S19 ?_ | refine S49 ?_ | refine S66 ?_ | refine S68 ?_)
  exact ⟨.inr rfl, FR.cell1 rfl HBx rfl rfl (.cl (by simp only [PV.cl, PV.cl.clL, pint_cl, pli_cl, Bool.and_self]))⟩
theorem co_moved {l l' : Int} {c : List Int} (h : c = [] ∨ l = l') : co (l, c) = co (l', c) := by
  rcases h with rfl | rfl
  · funext e; rw [co_nil, co_nil]
  · rfl
end Go.Proofs.Ytdlpbpfcgjgppaa
