/- permgroup: Order, Contains. No condition of its own. -/
import Derived.Test.YthacglggkgmbhaaGGroupOrbitsBL
import Derived.Test.YthacglggkgmbhaaGGroupOrbitsBB
import Derived.Test.YthacglggkgmbhaaGGroupOrbitsBE
set_option linter.unusedVariables false
set_option linter.unusedSimpArgs false
namespace Go.Proofs.Ythacglggkgmbhaa
open Go.RowKit

@[simp] theorem clL_pli (l : List (List Int)) : PV.cl.clL (l.map pli) = true := clL_mem.2 fun c hc => by
  obtain ⟨x, _, rfl⟩ := List.mem_map.1 hc
  exact pli_cl x
@[simp] theorem clL_gL (n : Nat) (l : List Fn) : PV.cl.clL (gL n l) = true := clL_mem.2 fun c hc => by
  obtain ⟨x, _, rfl⟩ := List.mem_map.1 hc
  exact pli_cl _
@[simp] theorem pint_cl2 (x : Int) : (pint x).cl = true := rfl
@[simp] theorem pli_cl2 (x : List Int) : (pli x).cl = true := pli_cl x
theorem same_len {α : Type} {a b : List α} (ha : a.Nodup) (hb : b.Nodup) (h : ∀ x, x ∈ a ↔ x ∈ b) : a.length = b.length := ((List.perm_ext_iff_of_nodup ha hb).2 h).length_eq
set_option maxHeartbeats 8000000 in
set_option maxRecDepth 100000 in
theorem gorder_bad {n : Int} {c : Bool} {l : List (List Int)} (hb : ∀ r ∈ l, ∀ x ∈ r, in64 x) (hll : l.length ≤ 9223372036854775807) (h0 : grF n l ≠ 0) : SC Try.prog 14 [pint n, .lst c 1 l.length (l.map pli)] (.tup [pint 0, pint (grF n l)]) := by
  have kc := gcheck_s n (c := c) hb hll
  refine SC.go {} tok mixed Try.func14 rfl rfl Try.ntmps14 rfl rfl (by kernel_rfl) ?_
  first | simp only [updS] | simp only [updL, Nat.reduceAdd]
  repeat (first | refine S0 ?_ | refine S1 ?_ | refine S2 ?_ | refine S5 ?_ | refine S7 ?_ | refine S8 ?_ | refine S9 ?_ | refine S15 ?_ | refine S16 ?_ | refine S19 ?_ | refine S20 ?_ | refine S28 ?_ | refine S29 ?_ | refine S34 ?_ | refine S49 ?_)
  refine Scall (args := [pint n, .lst c 1 l.length (l.map pli)]) kc ?_
  generalize grF n l = y at *
  repeat (first | refine S0 ?_ | refine S1 ?_ | refine S2 ?_ | refine S5 ?_ | refine S7 ?_ | refine S8 ?_ | refine S9 ?_ | refine S15 ?_ | refine S16 ?_ | refine S19 ?_ | refine S20 ?_ | refine S28 ?_ | refine S29 ?_ | refine S34 ?_ | refine S49 ?_)
  exact ⟨.inr rfl, .cl rfl⟩
set_option maxHeartbeats 8000000 in
set_option maxRecDepth 100000 in
theorem gorder_ok {n : Nat} (hn : n ≤ 9) {c : Bool} {gs : List Fn} (hg : ∀ g ∈ gs, Pe n g) (hl : gs.length ≤ 6) (h0 : SC Try.prog 13 [pint n, .lst c 1 gs.length (gL n gs)] (pint 0)) {E : List Fn} (hE : E.Nodup) (hm : ∀ p, p ∈ E ↔ Gm (· ∈ gs) p) :
    SC Try.prog 14 [pint n, .lst c 1 gs.length (gL n gs)] (.tup [pint (E.length : Nat), pint 0]) := by
  refine SC.go {} tok mixed Try.func14 rfl rfl Try.ntmps14 rfl rfl (by kernel_rfl) ?_
  first | simp only [updS] | simp only [updL, Nat.reduceAdd]
  repeat (first | refine S0 ?_ | refine S1 ?_ | refine S2 ?_ | refine S5 ?_ | refine S7 ?_ | refine S8 ?_ | refine S9 ?_ | refine S15 ?_ | refine S16 ?_ | refine S19 ?_ | refine S20 ?_ | refine S28 ?_ | refine S29 ?_ | refine S34 ?_ | refine S49 ?_)
  refine Scall (args := [pint n, .lst c 1 gs.length (gL n gs)]) h0 ?_
  repeat (first | refine S0 ?_ | refine S1 ?_ | refine S2 ?_ | refine S5 ?_ | refine S7 ?_ | refine S8 ?_ | refine S9 ?_ | refine S15 ?_ | refine S16 ?_ | refine S19 ?_ | refine S20 ?_ | refine S28 ?_ | refine S29 ?_ | refine S34 ?_ | refine S49 ?_)
  refine Scalle (args := [pint n, .lst c 1 gs.length (gL n gs)]) (newChain_e hn hg (by omega)) ?_
  rintro r h' ⟨vt, mt, et, R, S, rfl, H, G, hS⟩
  refine Scalle (args := [chn n vt]) (size_e hn H G) ?_
  rintro r h2 ⟨rfl, rfl⟩
  have e : sizes R n 0 = E.length := by
    rw [← elems_len n R n 0]
    exact same_len (elems_nodup hn n 0 (by omega) G) hE (fun p => by rw [elems_mem hn n 0 (by omega) G, hS, hm])
  rw [e]
  repeat (first | refine S0 ?_ | refine S1 ?_ | refine S2 ?_ | refine S5 ?_ | refine S7 ?_ | refine S8 ?_ | refine S9 ?_ | refine S15 ?_ | refine S16 ?_ | refine S19 ?_ | refine S20 ?_ | refine S28 ?_ | refine S29 ?_ | refine S34 ?_ | refine S49 ?_)
  exact ⟨.inr rfl, .cl rfl⟩
end Go.Proofs.Ythacglggkgmbhaa

/- All elements of a group, found layer by layer with their first shortest words. Plain facts: nothing of the program is here. -/
set_option linter.unusedVariables false
set_option linter.unusedSimpArgs false
namespace Go.Proofs.Ythacglggkgmbhaa

/-- the letter m: generators and inverses in turn -/
def ltr (n : Nat) (gs : List Fn) (m : Nat) : Int × Fn := if m % 2 = 0 then (((m / 2 : Nat) : Int) + 1, gs.getD (m / 2) id) else (-(((m / 2 : Nat) : Int) + 1), iv n (gs.getD (m / 2) id))
abbrev El := Fn × List Int
def known (n : Nat) (E : List El) (p : Fn) : Bool := E.any fun x => decide (tabN n x.1 = tabN n p)
def stp (n : Nat) (x : El) (c : Int × Fn) (E : List El) : List El := if known n E (cmp x.1 c.2) then E else E ++ [(cmp x.1 c.2, x.2 ++ [c.1])]
def prt (n : Nat) (gs : List Fn) (x : El) (E : List El) : Nat → List El
  | 0 => E
  | m + 1 => stp n x (ltr n gs m) (prt n gs x E m)
def bfs (n : Nat) (gs : List Fn) : Nat → List El
  | 0 => [(id, [])]
  | i + 1 => if i < (bfs n gs i).length then prt n gs ((bfs n gs i).getD i (id, [])) (bfs n gs i) (2 * gs.length) else bfs n gs i
theorem stp_pre (n : Nat) (x : El) (c : Int × Fn) (E : List El) : ∃ D, stp n x c E = E ++ D := by
  unfold stp
  split
  · exact ⟨[], by simp⟩
  · exact ⟨_, rfl⟩
theorem prt_pre (n : Nat) (gs : List Fn) (x : El) (E : List El) : ∀ m, ∃ D, prt n gs x E m = E ++ D
  | 0 => ⟨[], by simp [prt]⟩
  | m + 1 => by
    obtain ⟨D, h⟩ := prt_pre n gs x E m
    obtain ⟨D2, h2⟩ := stp_pre n x (ltr n gs m) (prt n gs x E m)
    exact ⟨D ++ D2, by show stp n x (ltr n gs m) (prt n gs x E m) = _; rw [h2, h, List.append_assoc]⟩
theorem prt_len (n : Nat) (gs : List Fn) (x : El) (E : List El) (m : Nat) : E.length ≤ (prt n gs x E m).length := by
  obtain ⟨D, h⟩ := prt_pre n gs x E m
  rw [h, List.length_append]; omega
theorem prt_get (n : Nat) (gs : List Fn) (x : El) (E : List El) (m : Nat) {a : Nat} (ha : a < E.length) (d : El) : (prt n gs x E m).getD a d = E.getD a d := by
  obtain ⟨D, h⟩ := prt_pre n gs x E m
  rw [h]; simp [List.getD, List.getElem?_append, ha]
/-- what is found is right -/
structure Be (n : Nat) (gs : List Fn) (E : List El) : Prop where
  ok : ∀ x ∈ E, Pe n x.1 ∧ Gm (· ∈ gs) x.1
  nd : (E.map (·.1)).Nodup
  hd : ∃ D, E = (id, []) :: D
  wl : ∀ x ∈ E, x.2.length < E.length
theorem known_iff {n : Nat} {gs : List Fn} {E : List El} (B : Be n gs E) {p : Fn} (hp : Pe n p) : known n E p = true ↔ p ∈ E.map (·.1) := by
  unfold known
  rw [List.any_eq_true]
  constructor
  · rintro ⟨x, hx, e⟩
    have := (B.ok x hx).1.tab hp (of_decide_eq_true e)
    exact List.mem_map.2 ⟨x, hx, this⟩
  · intro h
    obtain ⟨x, hx, rfl⟩ := List.mem_map.1 h
    exact ⟨x, hx, decide_eq_true rfl⟩
theorem ltr_ok {n : Nat} {gs : List Fn} (hg : ∀ g ∈ gs, Pe n g) {m : Nat} (hm : m < 2 * gs.length) : Pe n (ltr n gs m).2 ∧ Gm (· ∈ gs) (ltr n gs m).2 := by
  have h1 := mem_getD (show m / 2 < gs.length by omega) id
  have h2 := hg _ h1
  unfold ltr
  split
  · exact ⟨h2, .gen h1⟩
  · exact ⟨h2.iv, (Gm.gen (S := fun x => x ∈ gs) h1).iv n⟩
theorem Be.start (n : Nat) (gs : List Fn) : Be n gs [(id, [])] := ⟨fun x hx => by simp only [List.mem_singleton] at hx; subst hx; exact ⟨.one n, .one⟩, by simp, ⟨[], rfl⟩, fun x hx => by simp only [List.mem_singleton] at hx; subst hx; simp⟩
theorem Be.stp {n : Nat} {gs : List Fn} {E : List El} (B : Be n gs E) {x : El} {c : Int × Fn} (hx : Pe n x.1 ∧ Gm (· ∈ gs) x.1) (hw : x.2.length < E.length) (hc : Pe n c.2 ∧ Gm (· ∈ gs) c.2) : Be n gs (stp n x c E) := by
  unfold Go.Proofs.Ythacglggkgmbhaa.stp
  have hp := hx.1.mul hc.1
  by_cases h : known n E (cmp x.1 c.2) = true
  · rw [if_pos h]; exact B
  · rw [if_neg h]
    rw [known_iff B hp] at h
    refine ⟨fun y hy => ?_, ?_, ?_, fun y hy => ?_⟩
    · rcases List.mem_append.1 hy with hy | hy
      · exact B.ok y hy
      · simp only [List.mem_singleton] at hy
        subst hy
        exact ⟨hp, hx.2.app hc.2⟩
    · rw [List.map_append, List.nodup_append]
      refine ⟨B.nd, by simp, fun a ha b hb => ?_⟩
      simp only [List.map_cons, List.map_nil, List.mem_singleton] at hb
      subst hb
      exact fun e => h (e ▸ ha)
    · obtain ⟨D, h⟩ := B.hd
      exact ⟨D ++ [_], by rw [h, List.cons_append]⟩
    · rw [List.length_append, List.length_singleton]
      rcases List.mem_append.1 hy with hy | hy
      · have := B.wl y hy; omega
      · simp only [List.mem_singleton] at hy
        subst hy
        simp only [List.length_append, List.length_singleton]; omega
theorem Be.prt {n : Nat} {gs : List Fn} (hg : ∀ g ∈ gs, Pe n g) {E : List El} (B : Be n gs E) {x : El} (hx : Pe n x.1 ∧ Gm (· ∈ gs) x.1) (hw : x.2.length < E.length) : ∀ m, m ≤ 2 * gs.length → Be n gs (prt n gs x E m)
  | 0, _ => B
  | m + 1, h => (Be.prt hg B hx hw m (by omega)).stp hx (Nat.lt_of_lt_of_le hw (prt_len n gs x E m)) (ltr_ok hg (by omega))
theorem Be.bfs {n : Nat} {gs : List Fn} (hg : ∀ g ∈ gs, Pe n g) : ∀ i, Be n gs (bfs n gs i)
  | 0 => .start n gs
  | i + 1 => by
    have B := Be.bfs hg i
    show Be n gs (if i < (Go.Proofs.Ythacglggkgmbhaa.bfs n gs i).length then _ else _)
    split
    · rename_i h
      exact B.prt hg (B.ok _ (mem_getD h _)) (B.wl _ (mem_getD h _)) _ (Nat.le_refl _)
    · exact B
/-- the products that have been looked at are found -/
theorem prt_has {n : Nat} {gs : List Fn} (hg : ∀ g ∈ gs, Pe n g) {E : List El} (B : Be n gs E) {x : El} (hx : Pe n x.1 ∧ Gm (· ∈ gs) x.1) (hw : x.2.length < E.length) : ∀ m, m ≤ 2 * gs.length → ∀ b, b < m → cmp x.1 (ltr n gs b).2 ∈ (prt n gs x E m).map (·.1)
  | 0, _, b, hb => by omega
  | m + 1, h, b, hb => by
    have B2 := B.prt hg hx hw m (by omega)
    have hl := ltr_ok hg (show m < 2 * gs.length by omega)
    obtain ⟨D, hD⟩ := stp_pre n x (ltr n gs m) (prt n gs x E m)
    show _ ∈ (stp n x (ltr n gs m) (prt n gs x E m)).map (·.1)
    by_cases c : b = m
    · subst c
      unfold stp
      by_cases hk : known n (prt n gs x E b) (cmp x.1 (ltr n gs b).2) = true
      · rw [if_pos hk]
        exact (known_iff B2 (hx.1.mul hl.1)).1 hk
      · rw [if_neg hk]; simp
    · rw [hD, List.map_append]
      exact List.mem_append_left _ (prt_has hg B hx hw m (by omega) b (by omega))
theorem bfs_mono (n : Nat) (gs : List Fn) (i : Nat) : ∃ D, bfs n gs (i + 1) = bfs n gs i ++ D := by
  show ∃ D, (if i < (bfs n gs i).length then _ else _) = _
  split
  · exact prt_pre _ _ _ _ _
  · exact ⟨[], by simp⟩
theorem bfs_closed {n : Nat} {gs : List Fn} (hg : ∀ g ∈ gs, Pe n g) : ∀ i a b, a < i → a < (bfs n gs i).length → b < 2 * gs.length → cmp ((bfs n gs i).getD a (id, [])).1 (ltr n gs b).2 ∈ (bfs n gs i).map (·.1)
  | 0, a, b, h, _, _ => by omega
  | i + 1, a, b, h, ha, hb => by
    have B := Be.bfs hg i
    obtain ⟨D, hD⟩ := bfs_mono n gs i
    by_cases c : i < (bfs n gs i).length
    · have hal : a < (bfs n gs i).length := by omega
      have e : (bfs n gs (i + 1)).getD a (id, []) = (bfs n gs i).getD a (id, []) := by rw [hD]; simp [List.getD, List.getElem?_append, hal]
      rw [e]
      by_cases ca : a = i
      · subst ca
        have := prt_has hg B (B.ok _ (mem_getD c (id, []))) (B.wl _ (mem_getD c (id, []))) (2 * gs.length) (Nat.le_refl _) b hb
        show _ ∈ (if a < (bfs n gs a).length then _ else _ : List El).map (·.1)
        rw [if_pos c]
        exact this
      · rw [hD, List.map_append]
        exact List.mem_append_left _ (bfs_closed hg i a b (by omega) hal hb)
    · have e : bfs n gs (i + 1) = bfs n gs i := by
        show (if i < (bfs n gs i).length then _ else _) = _
        rw [if_neg c]
      rw [e] at ha ⊢
      exact bfs_closed hg i a b (by omega) ha hb
/-- when all has been looked at, all is found -/
theorem bfs_all {n : Nat} (hn : n ≤ 9) {gs : List Fn} (hg : ∀ g ∈ gs, Pe n g) {i : Nat} (hi : i = (bfs n gs i).length) (p : Fn) : p ∈ (bfs n gs i).map (·.1) ↔ Gm (· ∈ gs) p := by
  have B := Be.bfs hg i
  constructor
  · intro h
    obtain ⟨x, hx, rfl⟩ := List.mem_map.1 h
    exact (B.ok x hx).2
  · intro h
    induction h with
    | one => obtain ⟨D, hD⟩ := B.hd; rw [hD]; simp
    | @mul F s _ hs ih =>
      obtain ⟨x, hx, rfl⟩ := List.mem_map.1 ih
      obtain ⟨a, ha, e⟩ := List.getElem_of_mem hx
      obtain ⟨k, hk, e2⟩ := List.getElem_of_mem hs
      have := bfs_closed hg i a (2 * k) (by omega) ha (by omega)
      rw [show (bfs n gs i).getD a (id, []) = x by simp [List.getD, ha, e]] at this
      unfold ltr at this
      rw [if_pos (by omega), show 2 * k / 2 = k by omega, show gs.getD k id = s by simp [List.getD, hk, e2]] at this
      exact this
theorem bfs_stop {n : Nat} {gs : List Fn} {i : Nat} (hi : i = (bfs n gs i).length) : ∀ d, bfs n gs (i + d) = bfs n gs i
  | 0 => rfl
  | d + 1 => by
    have ih := bfs_stop hi d
    show (if i + d < (bfs n gs (i + d)).length then _ else bfs n gs (i + d)) = _
    rw [ih, if_neg (by omega)]
theorem bfs_one {n : Nat} {gs : List Fn} {i j : Nat} (hi : i = (bfs n gs i).length) (hj : j = (bfs n gs j).length) : bfs n gs i = bfs n gs j := by
  by_cases h : i ≤ j
  · have := bfs_stop hi (j - i)
    rw [show i + (j - i) = j by omega] at this
    exact this.symm
  · have := bfs_stop hj (i - j)
    rw [show j + (i - j) = i by omega] at this
    exact this
theorem bfs_len {n : Nat} (hn : n ≤ 9) {gs : List Fn} (hg : ∀ g ∈ gs, Pe n g) {E : List El} (B : Be n gs E) : E.length ≤ 387420489 := by
  have := fn_pigeon hn B.nd (fun g h => by obtain ⟨x, hx, rfl⟩ := List.mem_map.1 h; exact (B.ok x hx).1)
  simpa using this
/-! ### the number of a permutation names it -/
theorem numGo_bd : ∀ (xs rest : List Int) (k : Nat), xs.Perm rest → k * fac rest.length ≤ numGo xs rest k ∧ numGo xs rest k < (k + 1) * fac rest.length
  | [], rest, k, h => by
    have : rest = [] := h.nil_eq.symm
    subst this
    simp [numGo, fac]
  | x :: xs, rest, k, h => by
    have hx : x ∈ rest := h.subset (by simp)
    have h2 : xs.Perm (rest.erase x) := (List.cons_perm_iff_perm_erase.1 h).2
    obtain ⟨b1, b2⟩ := numGo_bd xs (rest.erase x) (k * rest.length + rest.idxOf x) h2
    have hl : (rest.erase x).length = rest.length - 1 := List.length_erase_of_mem hx
    have hp : 0 < rest.length := List.length_pos_of_mem hx
    have hi : rest.idxOf x < rest.length := List.idxOf_lt_length_iff.2 hx
    have hf : fac rest.length = rest.length * fac (rest.length - 1) := by
      obtain ⟨m, hm⟩ : ∃ m, rest.length = m + 1 := ⟨rest.length - 1, by omega⟩
      rw [hm]; rfl
    rw [hl] at b1 b2
    show k * _ ≤ numGo xs (rest.erase x) (k * rest.length + rest.idxOf x) ∧ numGo xs (rest.erase x) (k * rest.length + rest.idxOf x) < _
    rw [hf]
    generalize fac (rest.length - 1) = f at *
    generalize rest.length = L at *
    generalize rest.idxOf x = j at *
    constructor
    · refine Nat.le_trans ?_ b1
      rw [← Nat.mul_assoc]
      exact Nat.mul_le_mul_right _ (by omega)
    · refine Nat.lt_of_lt_of_le b2 ?_
      rw [← Nat.mul_assoc]
      refine Nat.mul_le_mul_right _ ?_
      rw [Nat.add_mul]; omega
theorem numGo_inj : ∀ (xs ys rest : List Int) (k k' : Nat), xs.Perm rest → ys.Perm rest → numGo xs rest k = numGo ys rest k' → xs = ys ∧ k = k'
  | [], ys, rest, k, k', h, h', e => by
    have : rest = [] := h.nil_eq.symm
    subst this
    have : ys = [] := List.perm_nil.1 h'
    subst this
    exact ⟨rfl, e⟩
  | x :: xs, ys, rest, k, k', h, h', e => by
    cases ys with
    | nil =>
      have : rest = [] := h'.nil_eq.symm
      subst this
      exact absurd (List.perm_nil.1 h) (by simp)
    | cons y ys =>
      have hx : x ∈ rest := h.subset (by simp)
      have hy : y ∈ rest := h'.subset (by simp)
      have h2 : xs.Perm (rest.erase x) := (List.cons_perm_iff_perm_erase.1 h).2
      have h2' : ys.Perm (rest.erase y) := (List.cons_perm_iff_perm_erase.1 h').2
      have e : numGo xs (rest.erase x) (k * rest.length + rest.idxOf x) = numGo ys (rest.erase y) (k' * rest.length + rest.idxOf y) := e
      obtain ⟨b1, b2⟩ := numGo_bd xs (rest.erase x) (k * rest.length + rest.idxOf x) h2
      obtain ⟨c1, c2⟩ := numGo_bd ys (rest.erase y) (k' * rest.length + rest.idxOf y) h2'
      rw [List.length_erase_of_mem hx] at b1 b2
      rw [List.length_erase_of_mem hy, ← e] at c1 c2
      have hf := fac_pos (rest.length - 1)
      have e2 : k * rest.length + rest.idxOf x = k' * rest.length + rest.idxOf y := by
        have l1 := Nat.lt_of_mul_lt_mul_right (Nat.lt_of_le_of_lt b1 c2)
        have l2 := Nat.lt_of_mul_lt_mul_right (Nat.lt_of_le_of_lt c1 b2)
        omega
      have ix : rest.idxOf x < rest.length := List.idxOf_lt_length_iff.2 hx
      have iy : rest.idxOf y < rest.length := List.idxOf_lt_length_iff.2 hy
      have e3 : rest.idxOf x = rest.idxOf y := by
        have := congrArg (· % rest.length) e2
        simp only [Nat.mul_comm _ rest.length, Nat.mul_add_mod, Nat.mod_eq_of_lt ix, Nat.mod_eq_of_lt iy] at this
        exact this
      have e4 : x = y := by
        have h1 := List.getElem_idxOf ix
        have h2 := List.getElem_idxOf iy
        rw [← h1, ← h2]
        congr 1
      subst e4
      obtain ⟨q1, q2⟩ := numGo_inj xs ys (rest.erase x) _ _ h2 h2' e
      refine ⟨by rw [q1], ?_⟩
      have : k * rest.length = k' * rest.length := by omega
      exact Nat.eq_of_mul_eq_mul_right (by omega) this
theorem number_inj {n : Nat} {F G : Fn} (hF : Pe n F) (hG : Pe n G) (h : number (tabN n F) = number (tabN n G)) : F = G := by
  unfold number at h
  rw [tab_len, tab_len] at h
  have p1 := perm_idRow hF.isP.pm.rng hF.isP.pm.nd
  have p2 := perm_idRow hG.isP.pm.rng hG.isP.pm.nd
  rw [tab_len] at p1 p2
  exact hF.tab hG (numGo_inj _ _ _ 0 0 p1 p2 h).1
theorem number_id (n : Nat) : number (tabN n id) = 0 := by
  have key : ∀ (d a : Nat), numGo ((List.range' a d).map fun (i : Nat) => (i : Int)) ((List.range' a d).map fun (i : Nat) => (i : Int)) 0 = 0 := by
    intro d
    induction d with
    | zero => intro a; rfl
    | succ d ih =>
      intro a
      rw [List.range'_succ, List.map_cons]
      simp only [numGo, List.idxOf_cons_self, List.erase_cons_head, Nat.zero_mul, Nat.add_zero]
      exact ih (a + 1)
  unfold number tabN
  rw [List.length_map, List.length_range]
  unfold idRow
  rw [List.range_eq_range']
  exact key n 0
end Go.Proofs.Ythacglggkgmbhaa
