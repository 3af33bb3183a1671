/- Facts and contracts that the claim uses. No condition of its own. -/
import Derived.Test.YtkmkcbkfakoomaaDoorGRingTextsAG
set_option linter.unusedVariables false
set_option linter.unusedSimpArgs false
namespace Go.Proofs.YtkmkcbkfakoomaaDoor
open Go.RowKit
inductive PV where
  | junk
  | sc (v : Value)
  | lst (clip : Bool) (sz n : Nat) (cs : List PV)
  | ref (t off sz n : Nat)
  | ptr (t off : Nat)
  | lptr (cs : List PV)
  | agg (cs : List PV)
  | tup (vs : List PV)
  | clo (f : FuncId) (cap : List PV)
  | anyB
  | fmap (m : MF)
  | mref (t : Nat)
  | itr (t : Nat)
  | obj (b : Nat) (o : Obj)
  | siz (n : Nat)
  | gfm (kk : KT) (ks : List (List Int)) (ps : List PV)
instance : Inhabited PV := ⟨.junk⟩
abbrev Pl := Nat → Option (Nat × Nat)
inductive V (ρ : Pl) (Z : Nat → Prop) (w : World) : PV → Value → Prop
  | junk (v : Value) : V ρ Z w .junk v
  | sc (v : Value) : V ρ Z w (.sc v) v
  | anyb (b : Bool) : V ρ Z w .anyB (.bool b)
  | lst (clip : Bool) (sz n cap : Nat) (cs : List PV) (A : Option Addr) (u : Nat → Value)
      (hn : n ≤ cap) (hc : clip = true → cap = n) (hm : cap ≤ maxLen) (hl : cs.length = n * sz)
      (ha : cs ≠ [] → ∃ b o, A = some ⟨b, o, none⟩ ∧ ¬ Z b ∧ b < w.heap.size ∧ ∀ i, i < cs.length → w.cell? ⟨b, o + i, none⟩ = some (u i))
      (hv : ∀ i, i < cs.length → V ρ Z w (cs.getD i .junk) (u i)) : V ρ Z w (.lst clip sz n cs) (.slice A n cap)
  | ref (t off sz n cap : Nat) (A : Option Addr) (hn : n ≤ cap) (hm : cap ≤ maxLen)
      (hb : cap ≠ 0 → ∃ (b o : Nat) (arr : Array Value) (T : TypeId), ρ t = some (b, o) ∧ A = some ⟨b, o + off, none⟩ ∧ w.heap[b]? = some (.cells arr T (0, 0)) ∧ o + off + cap * sz ≤ arr.size) :
      V ρ Z w (.ref t off sz n) (.slice A n cap)
  | ptr (t off b o : Nat) (hr : ρ t = some (b, o)) : V ρ Z w (.ptr t off) (.pointer (some ⟨b, o + off, none⟩))
  | lptr (cs : List PV) (b o : Nat) (u : Nat → Value) (hz : ¬ Z b) (hb : b < w.heap.size) (hc : ∀ i, i < cs.length → w.cell? ⟨b, o + i, none⟩ = some (u i))
      (hv : ∀ i, i < cs.length → V ρ Z w (cs.getD i .junk) (u i)) : V ρ Z w (.lptr cs) (.pointer (some ⟨b, o, none⟩))
  | agg (cs : List PV) (vs : Array Value) (hl : cs.length = vs.size) (hv : ∀ i, i < cs.length → V ρ Z w (cs.getD i .junk) (vs.getD i undef)) : V ρ Z w (.agg cs) (.agg vs)
  | tup (cs : List PV) (vs : Array Value) (hl : cs.length = vs.size) (hv : ∀ i, i < cs.length → V ρ Z w (cs.getD i .junk) (vs.getD i undef)) : V ρ Z w (.tup cs) (.tuple vs)
  | clo (f : FuncId) (cs : List PV) (vs : Array Value) (hl : cs.length = vs.size) (hv : ∀ i, i < cs.length → V ρ Z w (cs.getD i .junk) (vs.getD i undef)) : V ρ Z w (.clo f cs) (.func (.func f) #[] vs)
  | fmap (m : MF) (b : Nat) (hz : ¬ Z b) (hs : b < w.heap.size) (he : ∃ es clk, w.heap[b]? = some (.map es clk) ∧ MOk es clk m) : V ρ Z w (.fmap m) (.map (some b))
  | mref (t b : Nat) (hr : ρ t = some (b, 0)) : V ρ Z w (.mref t) (.map (some b))
  | itr (t b : Nat) (hr : ρ t = some (b, 0)) : V ρ Z w (.itr t) (.pointer (some ⟨b, 0, none⟩))
  /-- a block that nobody writes; how much memory there is (what a caller remembers) -/
  | obj (b : Nat) (o : Obj) (hz : ¬ Z b) (hs : b < w.heap.size) (he : w.heap[b]? = some o) : V ρ Z w (.obj b o) (.bool false)
  | siz (n : Nat) (hs : n ≤ w.heap.size) : V ρ Z w (.siz n) (.bool false)
  | gfm (kk : KT) (ks : List (List Int)) (ps : List PV) (b : Nat) (us : List Value) (hz : ¬ Z b) (hs : b < w.heap.size) (he : ∃ es clk, w.heap[b]? = some (.map es clk) ∧ GOk kk es clk ks us) (hl : us.length = ps.length)
      (hv : ∀ i, i < ps.length → V ρ Z w (ps.getD i .junk) (us.getD i undef)) : V ρ Z w (.gfm kk ks ps) (.map (some b))
structure Ext (Z : Nat → Prop) (w w' : World) : Prop where
  size : w.heap.size ≤ w'.heap.size
  imm : ∀ b, b < w.heap.size → ¬ Z b → w'.heap[b]? = w.heap[b]?
  keep : ∀ (b : Nat) (arr : Array Value) (T : TypeId), w.heap[b]? = some (.cells arr T (0, 0)) → ∃ arr' : Array Value, w'.heap[b]? = some (.cells arr' T (0, 0)) ∧ arr'.size = arr.size
theorem V.ext {ρ ρ' : Pl} {Z Z' : Nat → Prop} {w w' : World} (he : Ext Z w w') (hz : ∀ b, b < w.heap.size → Z' b → Z b) (hr : ∀ t p, ρ t = some p → ρ' t = some p)
    {pv : PV} {v : Value} (h : V ρ Z w pv v) : V ρ' Z' w' pv v := by
  induction h with
  | junk v => exact .junk v
  | sc v => exact .sc v
  | anyb b => exact .anyb b
  | lst clip sz n cap cs A u hn hc hm hl ha hv ih =>
    refine .lst clip sz n cap cs A u hn hc hm hl (fun hne => ?_) (fun i hi => ih i hi)
    obtain ⟨b, o, rfl, hzb, hb, hcell⟩ := ha hne
    refine ⟨b, o, rfl, fun h => hzb (hz b hb h), Nat.lt_of_lt_of_le hb he.size, fun i hi => ?_⟩
    rw [← hcell i hi]
    exact World.cell?_of_block (w := w) (he.imm b hb hzb)
  | ref t off sz n cap A hn hm hb =>
    refine .ref t off sz n cap A hn hm (fun hc => ?_)
    obtain ⟨b, o, arr, T, hr', ha, hb, hs⟩ := hb hc
    obtain ⟨arr', h1, h2⟩ := he.keep b arr T hb
    exact ⟨b, o, arr', T, hr _ _ hr', ha, h1, by omega⟩
  | ptr t off b o hr' => exact .ptr t off b o (hr _ _ hr')
  | lptr cs b o u hzb hb hc hv ih =>
    refine .lptr cs b o u (fun h => hzb (hz b hb h)) (Nat.lt_of_lt_of_le hb he.size) (fun i hi => ?_) (fun i hi => ih i hi)
    rw [← hc i hi]
    exact World.cell?_of_block (w := w) (he.imm b hb hzb)
  | agg cs vs hl hv ih => exact .agg cs vs hl ih
  | tup cs vs hl hv ih => exact .tup cs vs hl ih
  | clo f cs vs hl hv ih => exact .clo f cs vs hl ih
  | fmap m b h1 h2 hx =>
    obtain ⟨es, clk, h3, h4⟩ := hx
    exact .fmap m b (fun h => h1 (hz b h2 h)) (Nat.lt_of_lt_of_le h2 he.size) ⟨es, clk, by rw [he.imm b h2 h1]; exact h3, h4⟩
  | mref t b hr' => exact .mref t b (hr _ _ hr')
  | itr t b hr' => exact .itr t b (hr _ _ hr')
  | obj b o h1 h2 hx => exact .obj b o (fun h => h1 (hz b h2 h)) (Nat.lt_of_lt_of_le h2 he.size) (by rw [he.imm b h2 h1]; exact hx)
  | siz n h1 => exact .siz n (Nat.le_trans h1 he.size)
  | gfm kk ks ps b us h1 h2 hx hl hv ih =>
    obtain ⟨es, clk, h3, h4⟩ := hx
    exact .gfm kk ks ps b us (fun h => h1 (hz b h2 h)) (Nat.lt_of_lt_of_le h2 he.size) ⟨es, clk, by rw [he.imm b h2 h1]; exact h3, h4⟩ hl ih
theorem Ext.refl (Z : Nat → Prop) (w : World) : Ext Z w w := ⟨Nat.le_refl _, fun _ _ _ => rfl, fun b arr T h => ⟨arr, h, rfl⟩⟩
theorem Ext.of_below {Z : Nat → Prop} {w w' : World} (h : Below w.heap.size w w') : Ext Z w w' :=
  ⟨h.size, fun b hb _ => h.block b hb, fun b arr T hb => ⟨arr, by
    have : b < w.heap.size := by
      apply Classical.byContradiction; intro hc
      rw [Array.getElem?_eq_none (by omega)] at hb; cases hb
    rw [h.block b this]; exact hb, rfl⟩⟩
inductive SpC where
  | map (m : MF)
  | iter (m : MF) (pre : List (Int × Value))
  | gmap (kk : KT) (ks : List (List Int)) (ps : List PV)
  | giter (kk : KT) (ks : List (List Int)) (ps : List PV) (pre : List Nat)
def Spec (ρ : Pl) (Z : Nat → Prop) (w : World) : SpC → Obj → Prop
  | .map m, obj => ∃ es clk, obj = .map es clk ∧ MOk es clk m
  | .iter m pre, obj => ∃ mb seen es clk, obj = .mapIter (some mb) clk seen clk ∧ ¬ Z mb ∧ mb < w.heap.size ∧ w.heap[mb]? = some (.map es clk) ∧ IOk es clk m seen pre
  | .gmap kk ks ps, obj => ∃ es clk us, obj = .map es clk ∧ GOk kk es clk ks us ∧ us.length = ps.length ∧ ∀ i, i < ps.length → V ρ Z w (ps.getD i .junk) (us.getD i undef)
  | .giter kk ks ps pre, obj => ∃ mb seen es clk us, obj = .mapIter (some mb) clk seen clk ∧ ¬ Z mb ∧ mb < w.heap.size ∧ w.heap[mb]? = some (.map es clk) ∧ GOk kk es clk ks us ∧ IGk es seen pre ∧ us.length = ps.length ∧ ∀ i, i < ps.length → V ρ Z w (ps.getD i .junk) (us.getD i undef)
theorem Spec.ext {ρ ρ' : Pl} {Z Z' : Nat → Prop} {w w' : World} (he : Ext Z w w') (hz : ∀ b, b < w.heap.size → Z' b → Z b) (hr : ∀ t p, ρ t = some p → ρ' t = some p) {c : SpC} {obj : Obj} (h : Spec ρ Z w c obj) : Spec ρ' Z' w' c obj := by
  cases c with
  | map m => exact h
  | iter m pre =>
    obtain ⟨mb, seen, es, clk, h1, h2, h3, h4, h5⟩ := h
    exact ⟨mb, seen, es, clk, h1, fun hh => h2 (hz mb h3 hh), Nat.lt_of_lt_of_le h3 he.size, by rw [he.imm mb h3 h2]; exact h4, h5⟩
  | gmap kk ks ps =>
    obtain ⟨es, clk, us, h1, h2, h3, h4⟩ := h
    exact ⟨es, clk, us, h1, h2, h3, fun i hi => (h4 i hi).ext he hz hr⟩
  | giter kk ks ps pre =>
    obtain ⟨mb, seen, es, clk, us, h1, h2, h3, h4, h5, h6, h7, h8⟩ := h
    exact ⟨mb, seen, es, clk, us, h1, fun hh => h2 (hz mb h3 hh), Nat.lt_of_lt_of_le h3 he.size, by rw [he.imm mb h3 h2]; exact h4, h5, h6, h7, fun i hi => (h8 i hi).ext he hz hr⟩
theorem Spec.nocell {ρ : Pl} {Z : Nat → Prop} {w : World} {c : SpC} {obj : Obj} (h : Spec ρ Z w c obj) (arr : Array Value) (T : TypeId) (q : Nat × Nat) : obj ≠ .cells arr T q := by
  cases c with
  | map m => obtain ⟨es, clk, h1, _⟩ := h; rw [h1]; intro e; cases e
  | iter m pre => obtain ⟨mb, seen, es, clk, h1, _⟩ := h; rw [h1]; intro e; cases e
  | gmap kk ks ps => obtain ⟨es, clk, us, h1, _⟩ := h; rw [h1]; intro e; cases e
  | giter kk ks ps pre => obtain ⟨mb, seen, es, clk, us, h1, _⟩ := h; rw [h1]; intro e; cases e
structure HP where
  blk : Nat → Option (List PV)
  next : Nat
  sp : Nat → Option SpC
  /-- tokens that are set aside -/
  win : Nat → Bool
def Zof (Z0 : Nat → Prop) (ρ : Pl) (h : HP) (b : Nat) : Prop := Z0 b ∨ (∃ t cs o, h.blk t = some cs ∧ ρ t = some (b, o)) ∨ ∃ t c, h.sp t = some c ∧ ρ t = some (b, 0)
structure HRel (w0 : World) (Z0 : Nat → Prop) (ρ : Pl) (h : HP) (w : World) : Prop where
  below : Below w0.heap.size w0 w
  z0 : ∀ b, Z0 b → b < w0.heap.size
  live : ∀ t cs, h.blk t = some cs → (cs = [] ∧ ρ t = none) ∨ ∃ b o arr T, ρ t = some (b, o) ∧ w0.heap.size ≤ b ∧ w.heap[b]? = some (.cells arr T (0, 0)) ∧ o + cs.length ≤ arr.size ∧
    ∀ i, i < cs.length → V ρ (Zof Z0 ρ h) w (cs.getD i .junk) (arr.getD (o + i) undef)
  inj : ∀ t t' cs cs' b o o', h.blk t = some cs → h.blk t' = some cs' → ρ t = some (b, o) → ρ t' = some (b, o') → t = t'
  free : ∀ t, 2 * h.next ≤ t → h.blk t = none ∧ ρ t = none
  slive : ∀ t c, h.sp t = some c → ∃ b obj, ρ t = some (b, 0) ∧ w0.heap.size ≤ b ∧ w.heap[b]? = some obj ∧ Spec ρ (Zof Z0 ρ h) w c obj
  sinj : ∀ t t' c c' b, h.sp t = some c → h.sp t' = some c' → ρ t = some (b, 0) → ρ t' = some (b, 0) → t = t'
  wfree : ∀ t, h.win t = true → h.blk t = none ∧ ρ t = none ∧ t < 2 * h.next
theorem lt_of_heap {w : World} {b : Nat} {o : Obj} (h : w.heap[b]? = some o) : b < w.heap.size := by
  apply Classical.byContradiction; intro hc
  rw [Array.getElem?_eq_none (by omega)] at h; cases h
theorem HRel.zlt {w0 : World} {Z0 : Nat → Prop} {ρ : Pl} {h : HP} {w : World} (H : HRel w0 Z0 ρ h w) (b : Nat) (hb : Zof Z0 ρ h b) : b < w.heap.size := by
  rcases hb with hb | ⟨t, cs, o, h1, h2⟩ | ⟨t, c, h1, h2⟩
  · exact Nat.lt_of_lt_of_le (H.z0 b hb) H.below.size
  · rcases H.live t cs h1 with ⟨_, e⟩ | ⟨b', o', arr, T, e, _, hh, _⟩
    · rw [h2] at e; cases e
    · rw [h2] at e; cases e
      exact lt_of_heap hh
  · obtain ⟨b', obj, e, _, hh, _⟩ := H.slive t c h1
    rw [h2] at e; cases e
    exact lt_of_heap hh
theorem HRel.apart {w0 : World} {Z0 : Nat → Prop} {ρ : Pl} {h : HP} {w : World} (H : HRel w0 Z0 ρ h w) {t : Nat} {c : SpC} {b : Nat} (hs : h.sp t = some c) (hr : ρ t = some (b, 0)) {arr : Array Value} {T : TypeId} {q : Nat × Nat} (hb : w.heap[b]? = some (.cells arr T q)) : False := by
  obtain ⟨b', obj, e, _, hh, hsp⟩ := H.slive t c hs
  rw [hr] at e; cases e
  rw [hb] at hh; cases hh
  exact hsp.nocell _ _ _ rfl
theorem HRel.apart' {w0 : World} {Z0 : Nat → Prop} {ρ : Pl} {h : HP} {w : World} (H : HRel w0 Z0 ρ h w) {t t' : Nat} {c : SpC} {cs : List PV} {b o : Nat} (hs : h.sp t = some c) (hr : ρ t = some (b, 0)) (hb : h.blk t' = some cs) (hr' : ρ t' = some (b, o)) : False := by
  rcases H.live t' cs hb with ⟨_, e⟩ | ⟨b', o', arr, T, e, _, hh, _⟩
  · rw [hr'] at e; cases e
  · rw [hr'] at e; cases e
    exact H.apart hs hr hh
theorem HRel.step {w0 : World} {Z0 : Nat → Prop} {ρ : Pl} {h : HP} {w w' : World} (H : HRel w0 Z0 ρ h w) (hb : Below w.heap.size w w') : HRel w0 Z0 ρ h w' := by
  have he : Ext (Zof Z0 ρ h) w w' := Ext.of_below hb
  refine ⟨H.below.trans (hb.mono H.below.size), H.z0, fun t cs ht => ?_, H.inj, H.free, fun t c ht => ?_, H.sinj, H.wfree⟩
  · rcases H.live t cs ht with hn | ⟨b, o, arr, T, h1, h2, h3, h4, h5⟩
    · exact .inl hn
    exact .inr ⟨b, o, arr, T, h1, h2, by rw [hb.block b (lt_of_heap h3)]; exact h3, h4, fun i hi => (h5 i hi).ext he (fun _ _ h => h) (fun _ _ h => h)⟩
  · obtain ⟨b, obj, h1, h2, h3, h4⟩ := H.slive t c ht
    exact ⟨b, obj, h1, h2, by rw [hb.block b (lt_of_heap h3)]; exact h3, h4.ext he (fun _ _ h => h) (fun _ _ h => h)⟩
structure AS where
  tmps : Nat → PV
  hp : HP
def upd (f : Nat → PV) (d : Nat) (v : PV) : Nat → PV := fun t => if t = d then v else f t
def putA (f : Nat → PV) (d : Option Tmp) (v : PV) : Nat → PV := match d with | some d => upd f d v | none => f
def ofConst : Value → PV
  | .slice none 0 0 => .lst true 0 0 []
  | .agg vs => .agg (vs.toList.map ofCell)
  | v => .sc v
where ofCell : Value → PV
  | .slice none 0 0 => .lst true 0 0 []
  | v => .sc v
def evA (s : Nat → PV) : Operand → PV
  | .tmp t => s t
  | .const v => ofConst v
  | .global g => .sc (.pointer (some ⟨g, 0, none⟩))
  | .func f => .clo f []
structure Rel (E : PV → Value → Prop) (w0 : World) (Z0 : Nat → Prop) (ρ : Pl) (n : Nat) (s : AS) (a : Act) (w : World) : Prop where
  defers : a.defers = []
  size : a.tmps.size = n
  tmps : ∀ t, V ρ (Zof Z0 ρ s.hp) w (s.tmps t) (a.tmps.getD t undef)
  heap : HRel w0 Z0 ρ s.hp w
  /-- what the caller remembers -/
  mem : ∀ p u, E p u → V ρ (Zof Z0 ρ s.hp) w p u
theorem V.ofCell {ρ : Pl} {Z : Nat → Prop} {w : World} (v : Value) : V ρ Z w (ofConst.ofCell v) v := by
  unfold ofConst.ofCell
  split
  · exact .lst _ _ _ _ _ _ (fun _ => undef) (Nat.le_refl _) (fun _ => rfl) (by unfold maxLen; omega) (by simp) (fun h => absurd rfl h) (fun i hi => by simp at hi)
  · exact .sc _
theorem V.ofConst {ρ : Pl} {Z : Nat → Prop} {w : World} (v : Value) : V ρ Z w (ofConst v) v := by
  unfold Go.Proofs.YtkmkcbkfakoomaaDoor.ofConst
  split
  · exact .lst _ _ _ _ _ _ (fun _ => undef) (Nat.le_refl _) (fun _ => rfl) (by unfold maxLen; omega) (by simp) (fun h => absurd rfl h) (fun i hi => by simp at hi)
  · rename_i vs
    refine .agg _ _ (by simp) (fun i hi => ?_)
    have hi' : i < vs.size := by simpa using hi
    have e1 : (vs.toList.map ofConst.ofCell).getD i .junk = ofConst.ofCell vs[i] := by simp [List.getD, hi']
    have e2 : vs.getD i undef = vs[i] := by simp [Array.getD, hi']
    rw [e1, e2]
    exact V.ofCell _
  · exact .sc _
theorem Rel.ev {E : PV → Value → Prop} {w0 : World} {Z0 : Nat → Prop} {ρ : Pl} {n : Nat} {s : AS} {a : Act} {w : World} (R : Rel E w0 Z0 ρ n s a w) (x : Operand) :
    V ρ (Zof Z0 ρ s.hp) w (evA s.tmps x) (a.eval x) := by
  cases x with
  | tmp t => exact R.tmps t
  | const v => exact V.ofConst v
  | global g => exact .sc _
  | func f => exact .clo f [] #[] rfl (fun i hi => by simp at hi)
theorem Rel.put {E : PV → Value → Prop} {w0 : World} {Z0 : Nat → Prop} {ρ ρ' : Pl} {n : Nat} {s : AS} {a : Act} {w w' : World} (R : Rel E w0 Z0 ρ n s a w) {h' : HP}
    (hH : HRel w0 Z0 ρ' h' w') (hup : ∀ pv u, V ρ (Zof Z0 ρ s.hp) w pv u → V ρ' (Zof Z0 ρ' h') w' pv u) {d : Option Tmp} (hd : ∀ x, d = some x → x < n)
    {v : PV} {u : Value} (hv : V ρ' (Zof Z0 ρ' h') w' v u) : Rel E w0 Z0 ρ' n ⟨putA s.tmps d v, h'⟩ (a.put d u) w' := by
  cases d with
  | none => exact ⟨R.defers, R.size, fun t => hup _ _ (R.tmps t), hH, fun p u h => hup _ _ (R.mem p u h)⟩
  | some d =>
    have hd' := hd d rfl
    refine ⟨R.defers, by simp [Act.put, R.size], fun t => ?_, hH, fun p u h => hup _ _ (R.mem p u h)⟩
    show V _ _ _ (upd s.tmps d v t) ((a.tmps.setIfInBounds d u).getD t undef)
    unfold upd
    by_cases e : t = d
    · subst e
      rw [if_pos rfl]
      have e2 : (a.tmps.setIfInBounds t u).getD t undef = u := by
        have h1 := R.size
        have h2 : t < a.tmps.size := by rw [h1]; exact hd'
        simp [Array.getD, h2]
      rw [e2]
      exact hv
    · rw [if_neg e]
      have e2 : (a.tmps.setIfInBounds d u).getD t undef = a.tmps.getD t undef := by
        simp [Array.getElem?_setIfInBounds_ne (show d ≠ t from fun h => e h.symm)]
      rw [e2]
      exact hup _ _ (R.tmps t)
end Go.Proofs.YtkmkcbkfakoomaaDoor
