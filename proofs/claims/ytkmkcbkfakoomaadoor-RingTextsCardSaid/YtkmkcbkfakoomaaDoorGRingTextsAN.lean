/- Facts and contracts that the claim uses. No condition of its own. -/
import Derived.Test.YtkmkcbkfakoomaaDoorGRingTextsAL
import Derived.Test.YtkmkcbkfakoomaaDoorGRingTextsAM
import Derived.Laws.MakeOwn
import Derived.Laws.OwnMore
import Derived.Laws.Cover3
import Derived.Laws.Slices
set_option linter.unusedVariables false
set_option linter.unusedSimpArgs false
namespace Go.Proofs.YtkmkcbkfakoomaaDoor
open Go.RowKit
variable {P : Program} {e : Operand → PV} {w0 : World} {Z0 : Nat → Prop} {ρ : Pl} {h h' : HP} {w : World} {o : Oper} {a : Act} {c : Cls} {v : PV} {K : Act → World → Prop} {Q : Exit → Act → World → Prop}
theorem getD_of {α : Type} {l : List α} {i : Nat} {p d : α} (h : l[i]? = some p) : l.getD i d = p := by simp [List.getD, h]
theorem lt_of_get {α : Type} {l : List α} {i : Nat} {p : α} (h : l[i]? = some p) : i < l.length := (List.getElem?_eq_some_iff.1 h).1
theorem SlT.elem {t el sz bs : Nat} {zc : List Value} (s : SlT P t el sz bs zc) : P.underlying t = some (.slice (P.elem t)) ∧ P.elem t = el := elem_und s.und
theorem run_ix {t el sz bs : Nat} {zc : List Value} (s : SlT P t el sz bs zc) {b k n cap : Nat} {kk : IntKind} {i : Int} (h0 : 0 ≤ i) (h1 : i < n) :
    (Instr.indexAt t (.slice (some ⟨b, k, none⟩) n cap) (.int kk i)).run P w = .ok (.pointer (some ⟨b, k + i.toNat * sz, none⟩)) w := by
  rw [run_indexAt_slice w t _ n cap kk i s.elem.1, if_pos ⟨h0, h1⟩, s.elem.2, s.run_size]
  simp [Addr.add_lit]
theorem run_ixa {t len el sz : Nat} (s : ArT P t len el sz) {b k : Nat} {kk : IntKind} {i : Int} (h0 : 0 ≤ i) (h1 : i < len) :
    (Instr.indexAt t (.pointer (some ⟨b, k, none⟩)) (.int kk i)).run P w = .ok (.pointer (some ⟨b, k + i.toNat * sz, none⟩)) w := by
  obtain ⟨i', g1, g2⟩ := s.info
  have e1 : P.elem t = el := by simp [Program.elem, s.und]
  have e2 : P.arrayLen t = len := by simp [Program.arrayLen, s.und]
  rw [run_indexAt_array w t _ kk i (by rw [e1, e2]; exact s.und), if_pos ⟨h0, by rw [e2]; exact h1⟩, e1, run_size g1, g2]
  simp [Addr.add_lit]
theorem run_fa {t f off ty sz : Nat} {ag : Bool} (s : FdT P t f off ty sz ag) {b k : Nat} :
    (Instr.fieldAt t (.pointer (some ⟨b, k, none⟩)) f).run P w = .ok (.pointer (some ⟨b, k + off, none⟩)) w := by
  obtain ⟨fs, g1, fd, g2, rfl, rfl⟩ := s.und
  have hs := s.el.run_size w
  have hp := s.pos
  simp [Instr.fieldAt, run_underlying g1, g2, Instr.sureAddr, fieldPlace, hs, show sz ≠ 0 by omega, Addr.add_lit]
theorem V.getArr {Z : Nat → Prop} {cs : List PV} {f : Nat → Value} (hv : ∀ i, i < cs.length → V ρ Z w (cs.getD i .junk) (f i)) (k sz : Nat) (hk : k + sz ≤ cs.length) :
    V ρ Z w (.agg ((cs.drop k).take sz)) (.agg ((List.range sz).map (fun i => f (k + i))).toArray) := by
  have hlen : ((cs.drop k).take sz).length = sz := by simp; omega
  refine .agg _ _ (by rw [hlen]; simp) (fun i hi => ?_)
  rw [hlen] at hi
  have := hv (k + i) (by omega)
  have e1 : ((cs.drop k).take sz).getD i .junk = cs.getD (k + i) .junk := by simp [List.getD, List.getElem?_take, hi, List.getElem?_drop]
  have e2 : (((List.range sz).map (fun i => f (k + i))).toArray).getD i undef = f (k + i) := by simp [Array.getD, hi]
  rw [e1, e2]; exact this
theorem sound_fd {t f off ty sz : Nat} {ag : Bool} (s : FdT P t f off ty sz ag) {vs : Array Value} (hk : off + sz ≤ vs.size) (h1 : ag = false → sz = 1) :
    (Instr.field t (.agg vs) f).run P w = .ok (if ag then .agg (vs.extract off (off + sz)) else vs.getD off undef) w := by
  obtain ⟨fs, g1, fd, g2, rfl, rfl⟩ := s.und
  have hs := s.el.run_size w
  have hp := s.pos
  cases ag with
  | true => simp [Instr.field, run_underlying g1, g2, asAgg, part, s.el.run_agg, hs]
  | false =>
    have := h1 rfl
    have hlt : fd.offset < vs.size := by omega
    simp [Instr.field, run_underlying g1, g2, asAgg, part, s.el.run_agg, hlt, Array.getD]
theorem flat_len {α : Type} (n : Nat) (l : List α) : ((List.replicate n l).flatten).length = n * l.length := by
  induction n with
  | zero => simp
  | succ n ih => rw [List.replicate_succ, List.flatten_cons, List.length_append, ih, Nat.succ_mul]; omega
theorem flat_get {α : Type} (d : α) (l : List α) : ∀ (n i : Nat), i < n * l.length → ((List.replicate n l).flatten).getD i d = l.getD (i % l.length) d
  | 0, i, h => by simp at h
  | n + 1, i, h => by
    rw [List.replicate_succ, List.flatten_cons]
    by_cases c : i < l.length
    · rw [Nat.mod_eq_of_lt c]
      simp [List.getD, List.getElem?_append_left c]
    · rw [Nat.succ_mul] at h
      have ih := flat_get d l n (i - l.length) (by omega)
      simp only [List.getD] at ih ⊢
      have hm : i % l.length = (i - l.length) % l.length := Nat.mod_eq_sub_mod (by omega)
      rw [List.getElem?_append_right (by omega), ih, hm]
theorem made_get (z : Array Value) (n i : Nat) (h : i < n) (hz : 0 < z.size) : (madeCells z n).getD i undef = z.toList.getD (i % z.size) undef := by
  have hm := Nat.mod_lt i hz
  have h1 : i < (madeCells z n).size := by rw [size_madeCells]; exact h
  simp [madeCells, Array.getD, List.getD, h, hm]
theorem zero_cells {zc : List Value} {sz : Nat} (hz : zc.length = sz) (hp : 0 < sz) (n : Nat) (arr : Array Value) (hg : ∀ i, i < n * sz → arr.getD i undef = zc.getD (i % sz) undef) (i : Nat)
    (hi : i < ((List.replicate n (zc.map ofConst.ofCell)).flatten).length) {Z : Nat → Prop} : V ρ Z w (((List.replicate n (zc.map ofConst.ofCell)).flatten).getD i .junk) (arr.getD i undef) := by
  rw [flat_len, List.length_map, hz] at hi
  rw [hg i hi, flat_get _ _ _ _ (by rw [List.length_map, hz]; exact hi), List.length_map, hz]
  have hm : i % sz < zc.length := by rw [hz]; exact Nat.mod_lt i hp
  simp [List.getD, hm]
  exact V.ofCell _
theorem run_sl {t el sz bs : Nat} {zc : List Value} (s : SlT P t el sz bs zc) {A : Option Addr} {n cap : Nat} {lo hi : Option Operand} {zl zh : Int} {Z : Nat → Prop}
    (hl : bndI e lo 0 zl) (hh : bndI e hi n zh) (hel : ∀ x, lo = some x → V ρ Z w (e x) (a.eval x)) (heh : ∀ x, hi = some x → V ρ Z w (e x) (a.eval x))
    (h0 : 0 ≤ zl) (h1 : zl ≤ zh) (h2 : zh ≤ n) (hc : n ≤ cap) :
    (Instr.sliceAt t (.slice A n cap) (lo.map a.eval) (hi.map a.eval) none).run P w = .ok (sliced A zl.toNat zh.toNat cap sz) w := by
  rw [run_sliceAt_slice w t _ _ _ _ s.elem.1]
  cases lo with
  | none =>
    simp only [bndI] at hl; subst hl
    cases hi with
    | none =>
      simp only [bndI] at hh; subst hh
      simp only [Option.map_none]
      rw [run_slice_all w t A n cap s.elem.1, s.elem.2, s.run_size]; simp
    | some y =>
      obtain ⟨k, hk⟩ := hh
      have := heh y rfl
      rw [hk] at this
      simp only [Option.map_none, Option.map_some, this.sc_inv]
      rw [run_slice_h w t A n cap s.elem.1 k zh (by omega) (by omega), s.elem.2, s.run_size]; simp
  | some x =>
    obtain ⟨k, hk⟩ := hl
    have hx := hel x rfl
    rw [hk] at hx
    cases hi with
    | none =>
      simp only [bndI] at hh; subst hh
      simp only [Option.map_none, Option.map_some, hx.sc_inv]
      rw [run_slice_l w t A n cap s.elem.1 k zl h0 h1, s.elem.2, s.run_size]; simp
    | some y =>
      obtain ⟨k2, hk2⟩ := hh
      have := heh y rfl
      rw [hk2] at this
      simp only [Option.map_some, this.sc_inv, hx.sc_inv]
      rw [run_slice_lh w t A n cap s.elem.1 k k2 zl zh h0 h1 (by omega), s.elem.2, s.run_size]; simp
theorem V.cutl {Z : Nat → Prop} {cl cl' : Bool} {sz' sz n cap l hN m : Nat} {cs : List PV} {A : Option Addr} (hp : 0 < sz) (hs : sz' = sz ∨ n = 0) (hv : V ρ Z w (.lst cl sz' n cs) (.slice A n cap)) (h1 : l ≤ hN) (h2 : hN ≤ n)
    (hm : hN ≤ m) (hmc : m ≤ cap) (hcl : cl' = true → m = hN) : V ρ Z w (.lst cl' sz (hN - l) ((cs.drop (l * sz)).take ((hN - l) * sz))) (sliced A l hN m sz) := by
  obtain ⟨cap', A', f, e0, g1, g2, g3, g4, g5, g6⟩ := hv.lst_inv
  cases e0
  have hlen : ((cs.drop (l * sz)).take ((hN - l) * sz)).length = (hN - l) * sz := by
    rcases hs with rfl | h0
    · have : (hN - l) * sz' + l * sz' ≤ n * sz' := by rw [← Nat.add_mul]; exact Nat.mul_le_mul_right _ (by omega)
      simp; omega
    · have : hN - l = 0 := by omega
      rw [this]; simp
  unfold sliced
  refine .lst _ _ _ _ _ _ (fun i => f (l * sz + i)) (by omega) (fun h => by have := hcl h; omega) (by omega) hlen (fun hne => ?_) (fun i hi => ?_)
  · have hpos : 0 < (hN - l) * sz := by rw [← hlen]; exact List.length_pos_iff.2 hne
    have hlt : l < hN := by
      apply Classical.byContradiction; intro c
      have : hN - l = 0 := by omega
      rw [this] at hpos; simp at hpos
    have hcs : cs ≠ [] := by rintro rfl; simp at hne
    obtain ⟨b, k, rfl, hz, hb, hc⟩ := g5 hcs
    refine ⟨b, k + l * sz, ?_, hz, hb, fun i hi => ?_⟩
    · rw [if_neg (by omega)]; simp [Addr.add_lit]
    · have := hc (l * sz + i) (by simp at hi; omega)
      rwa [← Nat.add_assoc] at this
  · have hi' := hi
    rw [hlen] at hi'
    simp at hi
    have e1 : ((cs.drop (l * sz)).take ((hN - l) * sz)).getD i .junk = cs.getD (l * sz + i) .junk := by simp [List.getD, List.getElem?_take, hi', List.getElem?_drop]
    rw [e1]
    exact g6 _ (by omega)
theorem V.cutr {Z : Nat → Prop} {tk off sz n cap l hN m : Nat} {A : Option Addr} (hv : V ρ Z w (.ref tk off sz n) (.slice A n cap)) (h1 : l ≤ hN) (h2 : hN ≤ n)
    (hm : hN ≤ m) (hmc : m ≤ cap) : V ρ Z w (.ref tk (off + l * sz) sz (hN - l)) (sliced A l hN m sz) := by
  obtain ⟨cap', A', e0, g1, g2, g3⟩ := hv.ref_inv
  cases e0
  unfold sliced
  refine .ref _ _ _ _ _ _ (by omega) (by omega) (fun hc => ?_)
  obtain ⟨b, k, arr, T, r1, rfl, r3, r4⟩ := g3 (by omega)
  refine ⟨b, k, arr, T, r1, ?_, r3, ?_⟩
  · rw [if_neg (by omega)]; simp [Addr.add_lit, Nat.add_assoc]
  · have : l * sz + (m - l) * sz ≤ cap * sz := by rw [← Nat.add_mul]; exact Nat.mul_le_mul_right _ (by omega)
    omega
theorem drew_below (w : World) : Below w.heap.size w w.drew := (Below.refl _ _).drew
theorem app_cat {cs cs2 : List PV} {vs news : List Value} {Z : Nat → Prop} {p q : Nat} (hl : cs.length = p) (hl2 : cs2.length = q) (hn : vs.length = p) (hn2 : news.length = q)
    (h1 : ∀ i, i < p → V ρ Z w (cs.getD i .junk) (vs.getD i undef)) (h2 : ∀ i, i < q → V ρ Z w (cs2.getD i .junk) (news.getD i undef)) (i : Nat) (hi : i < p + q) :
    V ρ Z w ((cs ++ cs2).getD i .junk) ((vs ++ news).getD i undef) := by
  simp only [List.getD] at h1 h2 ⊢
  by_cases c : i < p
  · rw [List.getElem?_append_left (by omega), List.getElem?_append_left (by omega)]; exact h1 i c
  · rw [List.getElem?_append_right (by omega), List.getElem?_append_right (by omega), hl, hn]; exact h2 (i - p) (by omega)
theorem app_grow {t el sz bs : Nat} {zc : List Value} (s : SlT P t el sz bs zc) {n cap m c2 : Nat} {A A2 : Option Addr} {x y : Operand} {cs cs2 : List PV} {vs news : List Value} (H : HRel w0 Z0 ρ h w)
    (ho : o.op = .call ⟨.builtin .append, #[x, y], #[t, t]⟩) (hx : a.eval x = .slice A n cap) (hy : a.eval y = .slice A2 m c2) (R1 : Reads ρ (Zof Z0 ρ h) P w sz n (.slice A n cap) cs vs)
    (R2 : Reads ρ (Zof Z0 ρ h) P w sz m (.slice A2 m c2) cs2 news) (hg : cap < n + m) (hb : (n + m) * bs ≤ 140737488355328) (hb2 : n + m ≤ 140737488355328)
    {h2 : HP} (H2 : HRel w0 Z0 ρ h2 w) (hnx : h2.tok false = h.tok false) (up2 : ∀ pv u, V ρ (Zof Z0 ρ h) w pv u → V ρ (Zof Z0 ρ h2) w pv u) (hK : Ko w0 Z0 ρ h w o a (.ref (h.tok false) 0 sz (n + m)) (h2.add false (cs ++ cs2)) K) : o.wp P a w K Q := by
  obtain ⟨a1, a2, a3, a4, a5⟩ := R1
  obtain ⟨b1, b2, b3, b4, b5⟩ := R2
  obtain ⟨arr, c, r1, r2, r3, r4, r5⟩ := run_app_grow (w := w) (ty := o.type) s a1 b1 a4 b4 hg hb hb2
  have Hd := H2.step (drew_below w)
  have upd : ∀ pv u, V ρ (Zof Z0 ρ h) w pv u → V ρ (Zof Z0 ρ h2) w.drew pv u := fun pv u hv => (up2 _ _ hv).ext (Ext.of_below (drew_below w)) (fun _ _ h => h) (fun _ _ h => h)
  have hle : (n + m) * sz ≤ arr.size := by rw [r4]; exact Nat.mul_le_mul_right _ r2
  have hlen : (cs ++ cs2).length = (n + m) * sz := by rw [List.length_append, a2, b2, ← Nat.add_mul]
  obtain ⟨ρ', q1, H', up⟩ := Hd.alloc false arr el (cs ++ cs2) (by omega) (fun i hi => by
    rw [hlen] at hi
    rw [r5 i hi]
    exact upd _ _ (app_cat a2 b2 a1 b1 a5 b5 i (by rw [← Nat.add_mul]; exact hi)))
  refine wp_val ?_ (hK _ _ ρ' H' (.ref (h.tok false) 0 sz (n + m) c _ r2 r3 (fun _ => ⟨w.heap.size, 0, arr, el, by rw [← hnx]; exact q1, rfl, ?_, by omega⟩)) (fun pv u hv => up _ _ (upd _ _ hv)))
  · simp [execOp, ho, resolve, invoke, builtin, hx, hy, r1]
  · show (w.heap.push _)[w.heap.size]? = _
    simp
theorem run_bsl {t el sz bs len : Nat} {zc : List Value} (s : SlT P t el sz bs zc) {parts : Array (Nat × Operand)} {cs : List PV} {Z : Nat → Prop} (hb : len * sz ≤ 16777216)
    (hf : fillA (fun i => some (i * sz, sz)) ((List.replicate len (zc.map ofConst.ofCell)).flatten) (parts.toList.map fun x => (x.1, e x.2)) = some cs) (hv : ∀ x ∈ parts.toList, V ρ Z w (e x.2) (a.eval x.2)) :
    ∃ arr, (Instr.buildSlice t len (parts.map fun x => (x.1, a.eval x.2))).run P w = .ok (.slice (some ⟨w.heap.size, 0, none⟩) len len) (w.alloc (.cells arr el)) ∧ VA ρ Z w cs arr ∧ cs.length = len * sz := by
  obtain ⟨i, z, q1, q2, q3, q4, q5⟩ := s.info
  have hzs : z.cells.size = sz := by rw [← s.zlen, ← q5]; simp
  have hva : VA ρ Z w ((List.replicate len (zc.map ofConst.ofCell)).flatten) (madeCells z.cells (len * sz)) := by
    refine ⟨by rw [flat_len, List.length_map, s.zlen, size_madeCells], fun j hj => zero_cells s.zlen s.pos len _ (fun j hj => ?_) j hj⟩
    rw [made_get _ _ _ hj (by rw [hzs]; exact s.pos), q5, hzs]
  obtain ⟨arr, r1, r2⟩ := fill_ok (place' := fun i => some (i * sz, sz)) (fun _ _ h => h) parts.toList _ _ _ hf hv hva
  have hpt : (parts.map fun x => (x.1, a.eval x.2)).toList = parts.toList.map fun x => (x.1, a.eval x.2) := by simp
  rw [← hpt] at r1
  have hlen : ∀ (parts : List (Nat × PV)) (c r : List PV), fillA (fun i => some (i * sz, sz)) c parts = some r → r.length = c.length := by
    intro parts
    induction parts with
    | nil => intro c r h; simp only [fillA, Option.some.injEq] at h; rw [h]
    | cons x rest ih =>
      intro c r h
      have hs : ∀ (l : List PV) (c : List PV) k, (setsA c k l).length = c.length := by
        intro l
        induction l with
        | nil => intro c k; rfl
        | cons y l ih => intro c k; simp only [setsA]; rw [ih]; simp
      simp only [fillA] at h
      split at h
      · rw [ih _ _ h, hs]
      · cases h
  refine ⟨arr, ?_, r2, by rw [hlen _ _ _ hf, flat_len, List.length_map, s.zlen]⟩
  have n1 : ¬ 16777216 < len * sz := by omega
  subst q2
  unfold madeCells at r1
  by_cases hn : len * i.size = 0
  · have e0 : ∀ (g : Nat → Value), Array.map g (Array.range 0) = #[] := fun g => by simp [Array.range_zero']
    rw [hn, e0] at r1
    simp at r1
    simp [Instr.buildSlice, run_underlying s.und, sizeOf, typeInfo, zeroValue, q1, q4, n1, hn, newRow, e0, r1]
  · simp at r1
    simp [Instr.buildSlice, run_underlying s.und, sizeOf, typeInfo, zeroValue, q1, q4, n1, hn, newRow, r1]
theorem kpv_v {kk : KT} {key : List Int} {Z : Nat → Prop} : V ρ Z w (kpv kk key) (kk.val key) := by
  cases kk with
  | int => exact .sc _
  | str => exact .sc _
  | arr n =>
    refine .agg _ _ (by simp [KT.val]) (fun i hi => ?_)
    have hi' : i < key.length := by simpa using hi
    have e1 : (key.map fun x => PV.sc (.int .i64 x)).getD i .junk = .sc (.int .i64 key[i]) := by simp [List.getD, hi']
    have e2 : (key.map (Value.int .i64)).toArray.getD i undef = .int .i64 key[i] := by simp [Array.getD, hi']
    rw [e1, e2]
    exact .sc _
theorem kpv_inv {kk : KT} {key : List Int} {Z : Nat → Prop} {v : Value} (h : V ρ Z w (kpv kk key) v) : v = kk.val key := by
  cases kk with
  | int => exact h.sc_inv
  | str => exact h.sc_inv
  | arr n =>
    refine h.flv_inv ?_
    show Option.map (fun l => Value.agg l.toArray) (flvs (key.map fun x => PV.sc (.int .i64 x))) = some (KT.val (.arr n) key)
    have : ∀ l : List Int, flvs (l.map fun x => PV.sc (.int .i64 x)) = some (l.map (Value.int .i64)) := by
      intro l
      induction l with
      | nil => rfl
      | cons x l ih => simp [flvs, ih]
    rw [this]
    rfl
theorem lkG_v {ks : List (List Int)} {ps : List PV} {us : List Value} {zp : PV} {z : Value} {key : List Int} {Z : Nat → Prop} (hl : us.length = ps.length) (hv : ∀ i, i < ps.length → V ρ Z w (ps.getD i .junk) (us.getD i undef)) (hz : ofConst z = zp) (hk : ps.length = ks.length) (cm : Bool) :
    V ρ Z w (lkG cm ks ps zp key) (if cm then .tuple #[getP ks us key z, .bool (decide (key ∈ ks))] else getP ks us key z) := by
  have h1 : V ρ Z w (getP ks ps key zp) (getP ks us key z) := by
    unfold getP
    by_cases hm : key ∈ ks
    · rw [if_pos hm, if_pos hm]
      have hi : ks.idxOf key < ps.length := by rw [hk]; exact List.idxOf_lt_length_iff.2 hm
      have := hv _ hi
      rw [show ps.getD (ks.idxOf key) zp = ps.getD (ks.idxOf key) .junk by simp [List.getD, hi], show us.getD (ks.idxOf key) z = us.getD (ks.idxOf key) undef by simp [List.getD, show ks.idxOf key < us.length by omega]]
      exact this
    · rw [if_neg hm, if_neg hm, ← hz]
      exact V.ofConst z
  unfold lkG
  cases cm with
  | false => simpa using h1
  | true =>
    exact .tup _ _ rfl (fun i hi => by
      match i, hi with
      | 0, _ => exact h1
      | 1, _ => exact .sc _
      | i + 2, h => simp at h; omega)
theorem insP_v {ks : List (List Int)} {ps : List PV} {us : List Value} {key : List Int} {Z : Nat → Prop} (hl : us.length = ps.length) (hv : ∀ i, i < ps.length → V ρ Z w (ps.getD i .junk) (us.getD i undef)) {p : PV} {u : Value} (hp : V ρ Z w p u) :
    (insP ks us key u).length = (insP ks ps key p).length ∧ ∀ i, i < (insP ks ps key p).length → V ρ Z w ((insP ks ps key p).getD i .junk) ((insP ks us key u).getD i undef) := by
  unfold insP
  by_cases hm : key ∈ ks
  · simp only [if_pos hm, List.length_set]
    refine ⟨hl, fun i hi => ?_⟩
    by_cases e : ks.idxOf key = i
    · rw [e]
      simpa [List.getD, List.getElem?_set, hi, show i < us.length by omega] using hp
    · have := hv i hi
      simpa [List.getD, List.getElem?_set, e] using this
  · simp only [if_neg hm, List.length_append, List.length_singleton]
    refine ⟨by omega, fun i hi => ?_⟩
    by_cases e : i = ps.length
    · subst e
      have e2 : (us ++ [u]).getD ps.length undef = u := by rw [← hl]; simp
      rw [e2]
      simpa using hp
    · have hi' : i < ps.length := by omega
      have := hv i hi'
      simpa [List.getD, List.getElem?_append, hi', show i < us.length by omega] using this
theorem lkR_v (cm : Bool) (m : MF) (z : Value) (kk : Int) {Z : Nat → Prop} : V ρ Z w (lkR cm m z kk) (if cm then .tuple #[(m kk).getD z, .bool (m kk).isSome] else (m kk).getD z) := by
  cases cm with
  | true =>
    exact .tup _ _ rfl (fun i hi => by
      match i, hi with
      | 0, _ => exact .sc _
      | 1, _ => exact .sc _
      | i + 2, h => simp at h; omega)
  | false => exact .sc _
theorem wp_ok1 {u : Value} (H : HRel w0 Z0 ρ h w) (hK : Ko w0 Z0 ρ h w o a v h K) (hr : (execOp a.eval o).run P w = .ok (.value u) w) (hv : V ρ (Zof Z0 ρ h) w v u) : o.wp P a w K Q :=
  wp_val hr (hK.here H hv)
set_option maxHeartbeats 1000000 in
theorem D.sound (d : D P e c o h v h') (H : HRel w0 Z0 ρ h w) (he : ∀ x ∈ o.op.operands, V ρ (Zof Z0 ρ h) w (e x) (a.eval x))
    (hK : Ko w0 Z0 ρ h w o a v h' K) : o.wp P a w K Q := by
  cases d with
  | @move _ _ _ x ho =>
    refine wp_ok1 H hK (u := a.eval x) ?_ ?_
    · rcases ho with ho | ho <;> simp [execOp, ho]
    · rcases ho with ho | ho <;> exact he x (ops_mem ho (by simp [Op.operands]))
  | bin ho hx hy hr => exact sound_bin ho hx hy hr H he hK
  | @eqn _ _ _ bop t x t2 cl sz' sz n cs el bs zc s hb ho hx hs =>
    have e1 := he x (ops_mem ho (by simp [Op.operands]))
    rw [hx] at e1
    obtain ⟨cap, A, f, e3, g1, g2, g3, g4, g5, g6⟩ := e1.lst_inv
    have ec : a.eval (.const (.slice none 0 0)) = .slice none 0 0 := rfl
    have hq := run_equal_slice_nil (P := P) w t el A n cap s.und
    have hA : n ≠ 0 → A.isNone = false := fun hn => by
      have hpos : 0 < cs.length := by
        rw [g4, hs.resolve_right hn]; exact Nat.mul_pos (by omega) s.pos
      obtain ⟨b, k0, rfl, _⟩ := g5 (fun e => by rw [e] at hpos; simp at hpos)
      rfl
    rcases hb with rfl | rfl
    · refine wp_ok1 H hK (u := .bool A.isNone) ?_ ?_
      · simp [execOp, ho, e3, ec, eqGuard, binOp, hq]
      · by_cases hn : n = 0
        · rw [if_pos hn]; exact .anyb _
        · rw [if_neg hn, hA hn]; exact .sc _
    · refine wp_ok1 H hK (u := .bool (!A.isNone)) ?_ ?_
      · simp [execOp, ho, e3, ec, eqGuard, binOp, hq]
      · by_cases hn : n = 0
        · rw [if_pos hn]; exact .anyb _
        · rw [if_neg hn, hA hn]; exact .sc _
  | @capl _ _ _ x t sz n cs el sz' bs zc s ho hx =>
    have e1 := he x (ops_mem ho (by simp [Op.operands, Call.operands]))
    rw [hx] at e1
    obtain ⟨cap, A, f, e2, g1, g2, _⟩ := e1.lst_inv
    have hc := g2 rfl
    subst hc
    refine wp_ok1 H hK (u := .int .i64 cap) ?_ (.sc _)
    simp [execOp, ho, resolve, invoke, builtin, e2, run_cap_slice w t o.type A cap cap s.elem.1, goInt]
  | @mkf _ _ _ f xs ho =>
    obtain ⟨hl, hv⟩ := map_args (xs := xs) (f := e) rfl a.eval (Zof Z0 ρ h) (fun x hx => he x (ops_mem ho (by simp [Op.operands]; simpa using hx)))
    refine wp_ok1 H hK (u := .func (.func f) #[] (xs.map a.eval)) ?_ (.clo _ _ _ (by simp) hv)
    simp [execOp, ho, Instr.makeFunc]
  | @callv _ _ _ y f cap xs ats args r ho hy ha hcl hs =>
    have e1 := he y (ops_mem ho (by simp [Op.operands, Call.operands]))
    rw [hy] at e1
    obtain ⟨vs, e2, q1, q2⟩ := e1.clo_inv
    obtain ⟨hl, hv⟩ := map_args (xs := xs) (f := e) rfl a.eval (Zof Z0 ρ h) (fun x hx => he x (ops_mem ho (by simp [Op.operands, Call.operands]; right; simpa using hx)))
    subst ha
    have hall : ∀ i, i < (xs.toList.map e ++ cap).length → V ρ (Zof Z0 ρ h) w ((xs.toList.map e ++ cap).getD i .junk) ((xs.map a.eval ++ vs).getD i undef) := fun i hi => by
      by_cases c1 : i < xs.size
      · have := hv i (by simpa using c1)
        have e3 : (xs.toList.map e ++ cap).getD i .junk = (xs.toList.map e).getD i .junk := by simp [List.getD, List.getElem?_append_left (show i < (xs.toList.map e).length by simpa using c1)]
        have e4 : (xs.map a.eval ++ vs).getD i undef = (xs.map a.eval).getD i undef := by simp [Array.getElem?_append_left (show i < (xs.map a.eval).size by simpa using c1)]
        rw [e3, e4]; exact this
      · have := q2 (i - xs.size) (by simp at hi; omega)
        have e3 : (xs.toList.map e ++ cap).getD i .junk = cap.getD (i - xs.size) .junk := by simp [List.getD, List.getElem?_append_right (show (xs.toList.map e).length ≤ i by simpa using Nat.le_of_not_lt c1)]
        have e4 : (xs.map a.eval ++ vs).getD i undef = vs.getD (i - xs.size) undef := by simp [Array.getElem?_append_right (show (xs.map a.eval).size ≤ i by simpa using Nat.le_of_not_lt c1)]
        rw [e3, e4]; exact this
    obtain ⟨fn, k1, k2, k3⟩ := hs.1
    have k2' : fn.name ≠ "runtime.NumGoroutine" := by simpa using k2
    have k3' : fn.body ≠ none := by intro e; simp [e] at k3
    unfold Oper.wp
    rw [show (execOp a.eval o).run P w = .ok (.enter f (xs.map a.eval ++ vs)) w by simp [execOp, ho, resolve, Deferred.ofValue, e2, invoke, callFunc, k1, k2', k3']]
    refine (hs.2 (Zof Z0 ρ h) w (xs.map a.eval ++ vs) H.zlt (by simp [q1]) (fun i hi => (hall i hi).cl_any (clL_get hcl i hi))).mono ?_
    rintro _ w' ⟨u, rfl, h1, h2⟩
    exact hK u w' ρ (H.step h2) (h1.ext (Ext.refl _ _) (fun _ _ h => h) (fun t p h => by cases h)) (fun pv x hx => hx.ext (Ext.of_below h2) (fun _ _ h => h) (fun _ _ h => h))
  | @pick _ _ _ x y z b ho hx =>
    have e1 := he x (ops_mem ho (by simp [Op.operands]))
    have e2 := he y (ops_mem ho (by simp [Op.operands]))
    have e3 := he z (ops_mem ho (by simp [Op.operands]))
    rw [hx] at e1
    cases b with
    | true => exact wp_ok1 H hK (u := a.eval y) (by simp [execOp, ho, e1.sc_inv, asBool]) e2
    | false => exact wp_ok1 H hK (u := a.eval z) (by simp [execOp, ho, e1.sc_inv, asBool]) e3
  | @un _ _ _ _ _ x _ _ ho hx hr => exact sound_sc1 (ops_mem ho (by simp [Op.operands])) hx (fun e => by simp [execOp, ho, e, hr]) H he hK
  | @conv _ _ _ _ _ x _ _ ho hx hr => exact sound_sc1 (ops_mem ho (by simp [Op.operands])) hx (fun e => by simp [execOp, ho, e, hr]) H he hK
  | @bi2 _ _ _ b x y ats vx vy v' ho hx hy hr =>
    have e1 := he x (ops_mem ho (by simp [Op.operands, Call.operands]))
    have e2 := he y (ops_mem ho (by simp [Op.operands, Call.operands]))
    rw [hx] at e1; rw [hy] at e2
    refine wp_ok1 H hK (u := v') ?_ (.sc _)
    simp [execOp, ho, resolve, invoke, e1.sc_inv, e2.sc_inv, hr]
  | @bi1 _ _ _ b x ats vx v' ho hx hr =>
    have e1 := he x (ops_mem ho (by simp [Op.operands, Call.operands]))
    rw [hx] at e1
    refine wp_ok1 H hK (u := v') ?_ (.sc _)
    simp [execOp, ho, resolve, invoke, e1.sc_inv, hr]
  | @index _ _ _ t x ix vx vi v' ho hx hi hr =>
    have e1 := he x (ops_mem ho (by simp [Op.operands]))
    have e2 := he ix (ops_mem ho (by simp [Op.operands]))
    rw [hx] at e1; rw [hi] at e2
    refine wp_ok1 H hK (u := v') ?_ (.sc _)
    simp [execOp, ho, e1.sc_inv, e2.sc_inv, hr]
  | @slstr _ _ _ t x lo hi mx vx vl vh v' ho hx hl hh hm hr =>
    subst hm
    have e1 := he x (ops_mem ho (by simp [Op.operands]))
    rw [hx] at e1
    have e2 : lo.map a.eval = vl := by
      cases lo with
      | none => cases vl <;> simp at hl ⊢
      | some y =>
        cases vl with
        | none => simp at hl
        | some q =>
          have e3 := he y (ops_mem ho (by simp [Op.operands]))
          simp at hl; rw [hl] at e3
          simp [e3.sc_inv]
    have e3 : hi.map a.eval = vh := by
      cases hi with
      | none => cases vh <;> simp at hh ⊢
      | some y =>
        cases vh with
        | none => simp at hh
        | some q =>
          have e3 := he y (ops_mem ho (by simp [Op.operands]))
          simp at hh; rw [hh] at e3
          simp [e3.sc_inv]
    refine wp_ok1 H hK (u := v') ?_ (.sc _)
    simp [execOp, ho, e1.sc_inv, e2, e3, hr]
  | @lenl _ _ _ x t cl sz n cs el sz' bs zc s ho hx =>
    have e1 := he x (ops_mem ho (by simp [Op.operands, Call.operands]))
    rw [hx] at e1
    obtain ⟨cap, A, f, e2, _⟩ := e1.lst_inv
    refine wp_ok1 H hK (u := .int .i64 n) ?_ (.sc _)
    simp [execOp, ho, resolve, invoke, builtin, e2, run_len_slice w t o.type A n cap s.elem.1, goInt]
  | @lenr _ _ _ x t tk off sz n el sz' bs zc s ho hx =>
    have e1 := he x (ops_mem ho (by simp [Op.operands, Call.operands]))
    rw [hx] at e1
    obtain ⟨cap, A, e2, _⟩ := e1.ref_inv
    refine wp_ok1 H hK (u := .int .i64 n) ?_ (.sc _)
    simp [execOp, ho, resolve, invoke, builtin, e2, run_len_slice w t o.type A n cap s.elem.1, goInt]
  | @ixl _ _ _ t x ix cl sz n cs k i el bs zc s ho hx hi h0 h1 =>
    have e1 := he x (ops_mem ho (by simp [Op.operands]))
    have e2 := he ix (ops_mem ho (by simp [Op.operands]))
    rw [hx] at e1; rw [hi] at e2
    obtain ⟨cap, A, f, e3, g1, g2, g3, g4, g5, g6⟩ := e1.lst_inv
    have hpos : 0 < cs.length := by rw [g4]; exact Nat.mul_pos (by omega) s.pos
    obtain ⟨b, k0, rfl, hz, hb, hc⟩ := g5 (fun e => by rw [e] at hpos; simp at hpos)
    refine wp_ok1 H hK (u := .pointer (some ⟨b, k0 + i.toNat * sz, none⟩)) ?_ (V.lptr_drop hz hb hc g6 _)
    simp [execOp, ho, e2.sc_inv, e3, run_ix s h0 h1]
  | @ixr _ _ _ t x ix tk off sz n k i el bs zc s ho hx hi h0 h1 =>
    have e1 := he x (ops_mem ho (by simp [Op.operands]))
    have e2 := he ix (ops_mem ho (by simp [Op.operands]))
    rw [hx] at e1; rw [hi] at e2
    obtain ⟨cap, A, e3, g1, g2, g3⟩ := e1.ref_inv
    obtain ⟨b, k0, arr, T, r1, rfl, r3, r4⟩ := g3 (by omega)
    refine wp_ok1 H hK (u := .pointer (some ⟨b, k0 + off + i.toNat * sz, none⟩)) ?_ (by rw [Nat.add_assoc]; exact .ptr _ _ _ _ r1)
    simp [execOp, ho, e2.sc_inv, e3, run_ix s h0 h1]
  | @ixap _ _ _ t x ix tk off len el sz k i s ho hx hi h0 h1 =>
    have e1 := he x (ops_mem ho (by simp [Op.operands]))
    have e2 := he ix (ops_mem ho (by simp [Op.operands]))
    rw [hx] at e1; rw [hi] at e2
    obtain ⟨b, k0, e3, r1⟩ := e1.ptr_inv
    refine wp_ok1 H hK (u := .pointer (some ⟨b, k0 + off + i.toNat * sz, none⟩)) ?_ (by rw [Nat.add_assoc]; exact .ptr _ _ _ _ r1)
    simp [execOp, ho, e2.sc_inv, e3, run_ixa s h0 h1]
  | @ixal _ _ _ t x ix cs len el sz k i s ho hx hi h0 h1 =>
    have e1 := he x (ops_mem ho (by simp [Op.operands]))
    have e2 := he ix (ops_mem ho (by simp [Op.operands]))
    rw [hx] at e1; rw [hi] at e2
    obtain ⟨b, k0, f, e3, hz, hb, hc, hv⟩ := e1.lptr_inv
    refine wp_ok1 H hK (u := .pointer (some ⟨b, k0 + i.toNat * sz, none⟩)) ?_ (V.lptr_drop hz hb hc hv _)
    simp [execOp, ho, e2.sc_inv, e3, run_ixa s h0 h1]
  | @slp _ _ _ t x hi cs len el k zh s ho hx hi' hc hm h0 h1 =>
    have e1 := he x (ops_mem ho (by simp [Op.operands]))
    have e2 := he hi (ops_mem ho (by simp [Op.operands]))
    rw [hx] at e1; rw [hi'] at e2
    obtain ⟨b, k0, f, e3, hz, hb, hcs, hv⟩ := e1.lptr_inv
    obtain ⟨i, g1, g2⟩ := s.info
    have q1 : P.arrayLen t = len := by simp [Program.arrayLen, s.und]
    have q2 : P.elem t = el := by simp [Program.elem, s.und]
    have hu : P.underlying t = some (.array (P.arrayLen t) (P.elem t)) := by rw [q1, q2]; exact s.und
    have hs : (sizeOf (P.elem t)).run P w = .ok 1 w := by rw [q2]; simp [sizeOf, typeInfo, g1, g2]
    have hrun := run_sliceAt_array_h w t ⟨b, k0, none⟩ hu k zh h0 (by rw [q1]; exact h1)
    rw [hs] at hrun
    refine wp_ok1 H hK (u := slicedAt ⟨b, k0, none⟩ 0 zh.toNat len 1) ?_ ?_
    · simp only [execOp, ho, e2.sc_inv, e3, Option.map_none, Option.map_some, Sem.run_bind, hrun, Result.andThen_ok, Sem.run_pure, q1]
    · have ha : (if len = 0 then (Addr.mk b k0 none) else (Addr.mk b k0 none).add (0 * 1)) = ⟨b, k0, none⟩ := by
        split
        · rfl
        · simp [Addr.add]
      unfold slicedAt
      rw [ha, Nat.sub_zero, Nat.sub_zero]
      refine .lst _ _ _ _ _ _ f (by omega) (fun hh => by cases hh) (by unfold maxLen; omega) (by simp; omega) (fun _ => ⟨b, k0, rfl, hz, hb, fun i hi => hcs i (by simp at hi; omega)⟩) (fun i hi => ?_)
      have hi2 := hi
      simp at hi2
      have e4 : (cs.take zh.toNat).getD i .junk = cs.getD i .junk := by simp only [List.getD, List.getElem?_take]; rw [if_pos (by omega)]
      rw [e4]
      exact hv i (by omega)
  | @ldl _ _ _ t x p cs s ho hx hp =>
    have e1 := he x (ops_mem ho (by simp [Op.operands]))
    rw [hx] at e1
    obtain ⟨b, k0, f, e3, hz, hb, hc, hv⟩ := e1.lptr_inv
    have hl := lt_of_get hp
    refine wp_ok1 H hK (u := f 0) ?_ (by have := hv 0 hl; rwa [getD_of hp] at this)
    have hc0 := hc 0 hl
    rw [Nat.add_zero] at hc0
    simp only [execOp, ho, e3, Sem.run_bind, run_load1 s hc0, Result.andThen_ok, Sem.run_pure]
  | @ldla _ _ _ t x cs sz s ho hx hp =>
    have e1 := he x (ops_mem ho (by simp [Op.operands]))
    rw [hx] at e1
    obtain ⟨b, k0, f, e3, hz, hb, hc, hv⟩ := e1.lptr_inv
    have := V.getArr hv 0 sz (by omega)
    simp only [List.drop_zero, Nat.zero_add] at this
    refine wp_ok1 H hK (u := .agg ((List.range sz).map f).toArray) ?_ this
    simp only [execOp, ho, e3, Sem.run_bind, run_loadn s f (fun i hi => hc i (by omega)), Result.andThen_ok, Sem.run_pure]
  | @ldm _ _ _ t x tk off cs p s hc0 ho hx hb hp =>
    have e1 := he x (ops_mem ho (by simp [Op.operands]))
    rw [hx] at e1
    obtain ⟨b, k0, e3, r1⟩ := e1.ptr_inv
    have hl := lt_of_get hp
    rcases H.live tk cs hb with ⟨_, k1⟩ | ⟨b', o', arr, T, k1, k2, k3, k4, k5⟩
    · rw [r1] at k1; cases k1
    rw [r1] at k1; cases k1
    refine wp_ok1 H hK (u := arr.getD (k0 + off) undef) ?_ (by have := k5 off hl; rwa [getD_of hp] at this)
    simp only [execOp, ho, e3, Sem.run_bind, run_load1 s (cell_live k3 (show k0 + off < arr.size by omega)), Result.andThen_ok, Sem.run_pure]
  | @ldma _ _ _ t x tk off cs sz s hc0 ho hx hb hp =>
    have e1 := he x (ops_mem ho (by simp [Op.operands]))
    rw [hx] at e1
    obtain ⟨b, k0, e3, r1⟩ := e1.ptr_inv
    rcases H.live tk cs hb with ⟨_, k1⟩ | ⟨b', o', arr, T, k1, k2, k3, k4, k5⟩
    · rw [r1] at k1; cases k1
    rw [r1] at k1; cases k1
    have := V.getArr k5 off sz hp
    refine wp_ok1 H hK (u := .agg ((List.range sz).map (fun i => arr.getD (k0 + (off + i)) undef)).toArray) ?_ this
    simp only [execOp, ho, e3, Sem.run_bind, run_loadn s (fun i => arr.getD (k0 + (off + i)) undef) (fun i hi => by rw [Nat.add_assoc]; exact cell_live k3 (by omega)), Result.andThen_ok, Sem.run_pure]
  | @fal _ _ _ t x f off ty sz ag cs s ho hx =>
    have e1 := he x (ops_mem ho (by simp [Op.operands]))
    rw [hx] at e1
    obtain ⟨b, k0, g, e3, hz, hb, hc, hv⟩ := e1.lptr_inv
    refine wp_ok1 H hK (u := .pointer (some ⟨b, k0 + off, none⟩)) ?_ (V.lptr_drop hz hb hc hv _)
    simp only [execOp, ho, e3, Sem.run_bind, run_fa s, Result.andThen_ok, Sem.run_pure]
  | @fam _ _ _ t x f off ty sz ag tk k s ho hx =>
    have e1 := he x (ops_mem ho (by simp [Op.operands]))
    rw [hx] at e1
    obtain ⟨b, k0, e3, r1⟩ := e1.ptr_inv
    refine wp_ok1 H hK (u := .pointer (some ⟨b, k0 + k + off, none⟩)) ?_ (by rw [Nat.add_assoc]; exact .ptr _ _ _ _ r1)
    simp only [execOp, ho, e3, Sem.run_bind, run_fa s, Result.andThen_ok, Sem.run_pure]
  | @fd _ _ _ t x f off ty sz cs p s ho hx hp =>
    have e1 := he x (ops_mem ho (by simp [Op.operands]))
    rw [hx] at e1
    obtain ⟨vs, e3, g1, g2⟩ := e1.agg_inv
    have hl := lt_of_get hp
    obtain ⟨fs, q1, fdd, q2, rfl, rfl⟩ := s.und
    refine wp_ok1 H hK (u := vs.getD fdd.offset undef) ?_ (by have := g2 _ hl; rwa [getD_of hp] at this)
    have hlt : fdd.offset < vs.size := by omega
    simp [execOp, ho, e3, Instr.field, run_underlying q1, q2, asAgg, part, s.el.run_agg, hlt, Array.getD]
  | @fda _ _ _ t x f off ty sz cs s ho hx hp =>
    have e1 := he x (ops_mem ho (by simp [Op.operands]))
    rw [hx] at e1
    obtain ⟨vs, e3, g1, g2⟩ := e1.agg_inv
    have hr := sound_fd (w := w) s (vs := vs) (by omega) (fun h => by cases h)
    have := V.getArr g2 off sz hp
    have ea : ((List.range sz).map (fun i => vs.getD (off + i) undef)).toArray = vs.extract off (off + sz) := by
      apply Array.ext
      · simp; omega
      · intro i hi1 hi2
        simp at hi1
        simp [Array.getD, show off + i < vs.size by omega]
    rw [ea] at this
    refine wp_ok1 H hK (u := .agg (vs.extract off (off + sz))) ?_ this
    simp only [if_true] at hr
    simp only [execOp, ho, e3, Sem.run_bind, hr, Result.andThen_ok, Sem.run_pure]
  | @nck _ _ _ x ho hx =>
    have e1 := he x (ops_mem ho (by simp [Op.operands]))
    refine wp_ok1 H hK (u := a.eval x) ?_ e1
    have hq : ∃ ad, a.eval x = .pointer (some ad) := by
      cases hp : e x <;> rw [hp] at hx e1 <;> simp [PV.isP] at hx
      · obtain ⟨b, o, q, _⟩ := e1.ptr_inv; exact ⟨_, q⟩
      · obtain ⟨b, o, f, q, _⟩ := e1.lptr_inv; exact ⟨_, q⟩
    obtain ⟨ad, q⟩ := hq
    simp [execOp, ho, q]
  | @ext _ _ _ x i vs p ho hx hp =>
    have e1 := he x (ops_mem ho (by simp [Op.operands]))
    rw [hx] at e1
    obtain ⟨us, e3, g1, g2⟩ := e1.tup_inv
    have hl := lt_of_get hp
    refine wp_ok1 H hK (u := us.getD i undef) ?_ (by have := g2 _ hl; rwa [getD_of hp] at this)
    have hlt : i < us.size := by omega
    simp [execOp, ho, e3, Instr.extract, hlt, Array.getD]
  | @st _ _ _ t x y tk off cs s hcc ho hx hb hp hy =>
    have e1 := he x (ops_mem ho (by simp [Op.operands]))
    have e2 := he y (ops_mem ho (by simp [Op.operands]))
    rw [hx] at e1
    obtain ⟨b, k0, e3, r1⟩ := e1.ptr_inv
    rcases H.live tk cs hb with ⟨_, k1⟩ | ⟨b', o', arr, T, k1, k2, k3, k4, k5⟩
    · rw [r1] at k1; cases k1
    rw [r1] at k1; cases k1
    obtain ⟨H', up⟩ := H.write hb r1 k3 (arr.setIfInBounds (k0 + off) (a.eval y)) (by simp) (cs.set off (e y)) (by simp; omega) (put_arr k4 k5 hp e2)
    refine wp_skip' (w' := w.setRow b (arr.setIfInBounds (k0 + off) (a.eval y))) ?_ (hK undef _ ρ H' (.junk _) up)
    have hcell := cell_live k3 (show k0 + off < arr.size by omega)
    have hfro : w.frozen? ⟨b, k0 + off, none⟩ = false := by simp [World.frozen?, k3]
    have hcs := V.of_one hy e2
    have h1 := e2.one hy
    have hst := run_store P w ⟨b, k0 + off, none⟩ (a.eval y) .plain h1
    rw [hcell] at hst
    simp only [hfro, Bool.false_eq_true, if_false] at hst
    rw [setCell_eq_setRow w b (k0 + off) arr T (0, 0) _ k3] at hst
    simp only [execOp, ho, e3, Instr.storeAt, Instr.sureAddr, storeVar, Sem.run_bind, Sem.run_pure, Result.andThen_ok, s.run_size, hcs]
    simp [storeCells, Addr.add_zero', hst]
  | @sta _ _ _ t x y tk off cs vs sz s hcc ho hx hb hy hl hp h1 =>
    have e1 := he x (ops_mem ho (by simp [Op.operands]))
    have e2 := he y (ops_mem ho (by simp [Op.operands]))
    rw [hx] at e1; rw [hy] at e2
    obtain ⟨b, k0, e3, r1⟩ := e1.ptr_inv
    obtain ⟨us, e4, g1, g2⟩ := e2.agg_inv
    rcases H.live tk cs hb with ⟨_, k1⟩ | ⟨b', o', arr, T, k1, k2, k3, k4, k5⟩
    · rw [r1] at k1; cases k1
    rw [r1] at k1; cases k1
    have hu1 : ∀ u ∈ us.toList, u.oneCell' = true := fun u hu => by
      obtain ⟨i, hi, rfl⟩ := List.getElem_of_mem hu
      have hi' : i < us.size := by simpa using hi
      have hv := g2 i (by omega)
      have e5 : us.getD i undef = us.toList[i] := by simp [Array.getD, hi']
      rw [e5] at hv
      refine hv.one (h1 _ ?_)
      rw [show vs.getD i .junk = vs[i]'(by omega) by simp [List.getD, show i < vs.length by omega]]
      exact List.getElem_mem _
    have hst := run_storeCells_at P b (k0 + off) T us.toList 0 arr w k3 (by simp; omega) hu1
    simp only [Nat.add_zero, Array.length_toList] at hst
    obtain ⟨H', up⟩ := H.write hb r1 k3 ((arr.toList.take (k0 + off) ++ us.toList ++ arr.toList.drop (k0 + off + us.size)).toArray) (by simp; omega) (cs.take off ++ vs ++ cs.drop (off + sz)) (by simp; omega)
      (fun i hi => by
        have hi' : i < cs.length := by simp at hi; omega
        have L : ∀ j, j < arr.size → (arr.toList.take (k0 + off) ++ us.toList ++ arr.toList.drop (k0 + off + us.size)).toArray.getD j undef =
            if j < k0 + off then arr.getD j undef else if j < k0 + off + us.size then us.getD (j - (k0 + off)) undef else arr.getD j undef := fun j hj => by
          rw [show ∀ (l : List Value) j, l.toArray.getD j undef = l.getD j undef from fun l j => by simp [Array.getD, List.getD]; split <;> simp_all]
          simp only [List.getD, List.append_assoc]
          by_cases c1 : j < k0 + off
          · rw [if_pos c1, List.getElem?_append_left (by simp; omega), List.getElem?_take, if_pos c1]
            simp [Array.getD, hj]
          · rw [if_neg c1, List.getElem?_append_right (by simp; omega)]
            by_cases c2 : j < k0 + off + us.size
            · rw [if_pos c2, List.getElem?_append_left (by simp; omega)]
              have : j - (List.take (k0 + off) arr.toList).length = j - (k0 + off) := by simp; omega
              rw [this]
              simp [Array.getD, show j - (k0 + off) < us.size by omega]
            · rw [if_neg c2, List.getElem?_append_right (by simp; omega), List.getElem?_drop]
              have : k0 + off + us.size + (j - (List.take (k0 + off) arr.toList).length - us.toList.length) = j := by simp; omega
              rw [this]
              simp [Array.getD, hj]
        have R : (cs.take off ++ vs ++ cs.drop (off + sz)).getD i .junk = if i < off then cs.getD i .junk else if i < off + sz then vs.getD (i - off) .junk else cs.getD i .junk := by
          simp only [List.getD, List.append_assoc]
          by_cases c1 : i < off
          · rw [if_pos c1, List.getElem?_append_left (by simp; omega), List.getElem?_take, if_pos c1]
          · rw [if_neg c1, List.getElem?_append_right (by simp; omega)]
            have e6 : i - (List.take off cs).length = i - off := by simp; omega
            rw [e6]
            by_cases c2 : i < off + sz
            · rw [if_pos c2, List.getElem?_append_left (by omega)]
            · rw [if_neg c2, List.getElem?_append_right (by omega), List.getElem?_drop, show off + sz + (i - off - vs.length) = i by omega]
        rw [R, L _ (by omega)]
        by_cases c1 : i < off
        · have q1 : k0 + i < k0 + off := by omega
          rw [if_pos c1, if_pos q1]; exact k5 i hi'
        · have q1 : ¬ k0 + i < k0 + off := by omega
          rw [if_neg c1, if_neg q1]
          by_cases c2 : i < off + sz
          · have q2 : k0 + i < k0 + off + us.size := by omega
            rw [if_pos c2, if_pos q2, show k0 + i - (k0 + off) = i - off by omega]; exact g2 _ (by omega)
          · have q2 : ¬ k0 + i < k0 + off + us.size := by omega
            rw [if_neg c2, if_neg q2]; exact k5 i hi')
    refine wp_skip' ?_ (hK undef _ ρ H' (.junk _) up)
    simp only [execOp, ho, e3, e4, Instr.storeAt, Instr.sureAddr, storeVar, Sem.run_bind, Sem.run_pure, Result.andThen_ok, s.run_size, Value.cells]
    rw [if_neg (by omega)]
    simp [hst]
  | @boxl _ _ _ t x cs ho hx =>
    have e1 := he x (ops_mem ho (by simp [Op.operands]))
    rw [hx] at e1
    obtain ⟨us, e4, g1, g2⟩ := e1.agg_inv
    have hb : Below w.heap.size w (w.alloc (.cells us t)) := (Below.refl _ _).alloc (Nat.le_refl _) _
    have up : ∀ pv u, V ρ (Zof Z0 ρ h) w pv u → V ρ (Zof Z0 ρ h) (w.alloc (.cells us t)) pv u := fun pv u hv => hv.ext (Ext.of_below hb) (fun _ _ h => h) (fun _ _ h => h)
    refine wp_val (u := .pointer (some ⟨w.heap.size, 0, none⟩)) (w' := w.alloc (.cells us t)) ?_ (hK _ _ ρ (H.step hb) ?_ up)
    · simp [execOp, ho, e4, Instr.box, newVar, newRow, Value.cells]
    · refine .lptr cs w.heap.size 0 (fun i => us.getD i undef) (fun hz => Nat.lt_irrefl _ (H.zlt _ hz)) (by simp) (fun i hi => ?_) (fun i hi => up _ _ (g2 i hi))
      have hi' : i < us.size := by omega
      simp [Array.getD, hi']
  | @boxs _ _ _ t x ho hx =>
    have e1 := he x (ops_mem ho (by simp [Op.operands]))
    have hcs := V.of_one hx e1
    have hb : Below w.heap.size w (w.alloc (.cells #[a.eval x] t)) := (Below.refl _ _).alloc (Nat.le_refl _) _
    have up : ∀ pv u, V ρ (Zof Z0 ρ h) w pv u → V ρ (Zof Z0 ρ h) (w.alloc (.cells #[a.eval x] t)) pv u := fun pv u hv => hv.ext (Ext.of_below hb) (fun _ _ h => h) (fun _ _ h => h)
    refine wp_val (u := .pointer (some ⟨w.heap.size, 0, none⟩)) (w' := w.alloc (.cells #[a.eval x] t)) ?_ (hK _ _ ρ (H.step hb) ?_ up)
    · simp [execOp, ho, Instr.box, newVar, newRow, hcs]
    · refine .lptr [e x] w.heap.size 0 (fun i => a.eval x) (fun hz => Nat.lt_irrefl _ (H.zlt _ hz)) (by simp) (fun i hi => ?_) (fun i hi => ?_)
      · have : i = 0 := by simpa using hi
        subst this; simp
      · have : i = 0 := by simpa using hi
        subst this; exact up _ _ e1
  | @boxm _ _ t x cs ho hx =>
    have e1 := he x (ops_mem ho (by simp [Op.operands]))
    rw [hx] at e1
    obtain ⟨us, e4, g1, g2⟩ := e1.agg_inv
    obtain ⟨ρ', r1, H', up⟩ := H.alloc true us t cs (by omega) g2
    refine wp_val (u := .pointer (some ⟨w.heap.size, 0, none⟩)) (w' := w.alloc (.cells us t)) ?_ (hK _ _ ρ' H' (.ptr _ 0 _ 0 r1) up)
    simp [execOp, ho, e4, Instr.box, newVar, newRow, Value.cells]
  | @boxn _ _ t x ho hx =>
    have e1 := he x (ops_mem ho (by simp [Op.operands]))
    have hcs := V.of_one hx e1
    obtain ⟨ρ', r1, H', up⟩ := H.alloc true #[a.eval x] t [e x] (by simp) (fun i hi => by
      have : i = 0 := by simpa using hi
      subst this; exact e1)
    refine wp_val (u := .pointer (some ⟨w.heap.size, 0, none⟩)) (w' := w.alloc (.cells #[a.eval x] t)) ?_ (hK _ _ ρ' H' (.ptr _ 0 _ 0 r1) up)
    simp [execOp, ho, Instr.box, newVar, newRow, hcs]
  | @allo _ _ t zc s ho =>
    obtain ⟨i, z, q1, q2, rfl⟩ := s.info
    obtain ⟨ρ', r1, H', up⟩ := H.alloc true z.cells t (z.cells.toList.map ofConst.ofCell) (by simp) (fun i hi => by
      have := map_ofCell (ρ := ρ) (Z0 := Z0) (h := h) (w := w) z.cells.toList i hi
      simpa using this)
    refine wp_val (u := .pointer (some ⟨w.heap.size, 0, none⟩)) (w' := w.alloc (.cells z.cells t)) ?_ (hK _ _ ρ' H' (.ptr _ 0 _ 0 r1) up)
    simp [execOp, ho, Instr.alloc, zeroValue, typeInfo, q1, q2, newVar, newRow]
  | @alloS _ _ _ t zc s hc ho =>
    obtain ⟨i, z, q1, q2, rfl⟩ := s.info
    obtain ⟨ρ', r1, H', up⟩ := H.alloc false z.cells t (z.cells.toList.map ofConst.ofCell) (by simp) (fun i hi => by
      have := map_ofCell (ρ := ρ) (Z0 := Z0) (h := h) (w := w) z.cells.toList i hi
      simpa using this)
    refine wp_val (u := .pointer (some ⟨w.heap.size, 0, none⟩)) (w' := w.alloc (.cells z.cells t)) ?_ (hK _ _ ρ' H' (.ptr _ 0 _ 0 r1) up)
    simp [execOp, ho, Instr.alloc, zeroValue, typeInfo, q1, q2, newVar, newRow]
  | @alloA _ _ _ t zc tk s hc ho hw =>
    obtain ⟨i, z, q1, q2, rfl⟩ := s.info
    obtain ⟨ρ', r1, H', up⟩ := H.allocW hw z.cells t (z.cells.toList.map ofConst.ofCell) (by simp) (fun i hi => by
      have := map_ofCell (ρ := ρ) (Z0 := Z0) (h := h) (w := w) z.cells.toList i hi
      simpa using this)
    refine wp_val (u := .pointer (some ⟨w.heap.size, 0, none⟩)) (w' := w.alloc (.cells z.cells t)) ?_ (hK _ _ ρ' H' (.ptr _ 0 _ 0 r1) up)
    simp [execOp, ho, Instr.alloc, zeroValue, typeInfo, q1, q2, newVar, newRow]
  | @call _ _ _ f xs ats args r ho ha hcl hs =>
    obtain ⟨hl, hv⟩ := map_args ha a.eval (Zof Z0 ρ h) (fun x hx => he x (ops_mem ho (by simp [Op.operands, Call.operands]; right; simpa using hx)))
    refine sound_call ho hs (Zof Z0 ρ h) H.zlt hl hcl hv (fun u w' h1 h2 => hK u w' ρ (H.step h2) h1 (fun pv x hx => hx.ext (Ext.of_below h2) (fun _ _ h => h) (fun _ _ h => h)))
  | @callo _ _ _ f xs ats args sz n cs hc ho ha hcl hs =>
    obtain ⟨hl, hv⟩ := map_args ha a.eval (Zof Z0 ρ h) (fun x hx => he x (ops_mem ho (by simp [Op.operands, Call.operands]; right; simpa using hx)))
    exact sound_callo H ho hs (Zof Z0 ρ h) H.zlt hl hcl hv (.inr rfl) hK
  | @callob _ _ _ f xs ats args sz n cs hc ho ha hcl hs hf =>
    obtain ⟨hl, hv⟩ := map_args ha a.eval Z0 (fun x hx => V.bw H (he x (ops_mem ho (by simp [Op.operands, Call.operands]; right; simpa using hx))))
    exact sound_callo H ho hs Z0 (fun b hb => H.zlt b (.inl hb)) hl hcl hv (.inl hf) hK
  | @callm _ _ _ f x rs xs ats tk off cs zs us ys hc ho hxs hx hb hz hn hr hs =>
    have e1 := he x (ops_mem ho (by simp [Op.operands, Call.operands]; right; rw [← Array.mem_toList_iff, hxs]; simp))
    rw [hx] at e1
    obtain ⟨cap, A, e2, g2, g3, g4⟩ := e1.ref_inv
    obtain ⟨b, k, arr, T, r1, rfl, r3, r4⟩ := g4 (by omega)
    rcases H.live tk cs hb with ⟨_, k1⟩ | ⟨b', o', arr', T', k1, k2, k3, k4, k5⟩
    · rw [r1] at k1; cases k1
    rw [r1] at k1; cases k1
    rw [r3] at k3; cases k3
    have hzl : off + zs.length ≤ cs.length := by have := congrArg List.length hz; simp at this; omega
    have hl : rs.length = us.length := by have := congrArg List.length hr; simpa using this
    have hrs : rs.map a.eval = us := by
      apply List.ext_getElem
      · simpa using hl
      · intro i h1 h2
        have h1' : i < rs.length := by simpa using h1
        have h3 := he rs[i] (ops_mem ho (by simp [Op.operands, Call.operands]; right; rw [← Array.mem_toList_iff, hxs]; simp [List.getElem_mem h1']))
        have h4 : e rs[i] = .sc us[i] := by
          have := congrArg (fun l => l[i]?) hr
          simpa [h1', h2] using this
        rw [h4] at h3
        simpa using h3.sc_inv
    have hargs : xs.map a.eval = (.slice (some ⟨b, k + off, none⟩) zs.length cap :: us).toArray := by
      apply Array.ext'
      rw [Array.toList_map, hxs, List.map_cons, e2, hrs]
    unfold Oper.wp
    rw [run_call ho hs.1, hargs]
    refine (hs.2 w b (k + off) cap arr T r3 (by omega) g2 g3 (fun i hi => ?_)).mono ?_
    · have hi2 : off + i < cs.length := by omega
      have h5 := k5 (off + i) hi2
      have h6 : cs.getD (off + i) .junk = .sc (.int .i64 (zs.getD i 0)) := by
        have := congrArg (fun l => l[i]?) hz
        simp only [List.getElem?_take, hi, if_true, List.getElem?_drop, List.getElem?_map, List.getElem?_eq_getElem hi, List.getElem?_eq_getElem hi2, Option.map_some, Option.some.injEq] at this
        simp [List.getD, hi, hi2, this]
      rw [h6, ← Nat.add_assoc] at h5
      exact h5.sc_inv
    · rintro _ w' ⟨rfl, hyc, arr', q1, q2, q3⟩
      obtain ⟨H1, up1⟩ := H.write hb r1 r3 arr' q1 (List.replicate off .junk ++ ys.map fun y => .sc (.int .i64 y)) (by simp; omega) (fun i hi => by
        by_cases ho : i < off
        · rw [show (List.replicate off PV.junk ++ ys.map fun y => PV.sc (.int .i64 y)).getD i .junk = .junk by simp [List.getD, List.getElem?_append, ho]]
          exact .junk _
        · obtain ⟨j, rfl⟩ : ∃ j, i = off + j := ⟨i - off, by omega⟩
          have hj : j < ys.length := by simp at hi; omega
          rw [show (List.replicate off PV.junk ++ ys.map fun y => PV.sc (.int .i64 y)).getD (off + j) .junk = .sc (.int .i64 (ys.getD j 0)) by simp [List.getD, List.getElem?_append, hj], ← Nat.add_assoc, q3 j hj]
          exact .sc _)
      have hb1 := setRow_heap w b arr arr' T (0, 0) r3
      have hlt : b < (w.setRow b arr').heap.size := lt_of_heap hb1
      refine hK _ _ ρ (H1.step q2) (.ref _ _ _ _ _ _ hyc g3 (fun _ => ⟨b, k, arr', T, r1, rfl, by rw [q2.block b hlt]; exact hb1, by omega⟩)) (fun pv x hx => (up1 _ _ hx).ext (Ext.of_below q2) (fun _ _ h => h) (fun _ _ h => h))
  | @callh _ _ f xs ats args r h' ho ha hs =>
    obtain ⟨hl, hv⟩ := map_args ha a.eval (Zof Z0 ρ h) (fun x hx => he x (ops_mem ho (by simp [Op.operands, Call.operands]; right; simpa using hx)))
    unfold Oper.wp
    rw [run_call ho hs.1]
    refine (hs.2 w0 Z0 ρ w _ H (by rw [Array.size_map]; exact hl) hv).mono ?_
    rintro _ w' ⟨u, ρ', rfl, q1, q2, q3⟩
    exact hK u w' ρ' q1 q2 q3
  | @mkm _ _ t z s ho =>
    obtain ⟨ρ', r1, H', up⟩ := H.allocS true (.map fun _ => none) (.map #[] 0) ⟨_, _, rfl, MOk.empty⟩
    refine wp_val (u := .map (some w.heap.size)) (w' := w.alloc (.map #[] 0)) ?_ (hK _ _ ρ' H' (.mref _ _ r1) up)
    simp [execOp, ho, Instr.makeMap]
  | @mup _ _ t x k v tk m kk vv z s ho hx hm hk hv =>
    have hops : ∀ y, y = x ∨ y = k ∨ y = v → y ∈ o.op.operands := by
      rcases ho with ho | ho <;> (rw [ho]; intro y hy; simpa [Op.operands] using hy)
    have e1 := he x (hops x (by simp))
    have e2 := he k (hops k (by simp))
    have e3 := he v (hops v (by simp))
    rw [hx] at e1; rw [hk] at e2; rw [hv] at e3
    obtain ⟨b, e4, r1⟩ : ∃ b, a.eval x = .map (some b) ∧ ρ tk = some (b, 0) := by
      generalize a.eval x = u at e1
      cases e1 with | mref _ b hr => exact ⟨b, rfl, hr⟩
    obtain ⟨b0, obj, q1, q2, q3, es, clk, rfl, q4⟩ := H.slive tk _ hm
    rw [r1] at q1; cases q1
    obtain ⟨kt, el, q, u1, u2, _⟩ := s.und
    obtain ⟨es', clk', hrun, hm'⟩ := run_upd (P := P) u1 u2 q3 q4 kk vv
    obtain ⟨H', up⟩ := H.writeS hm r1 (c' := .map fun y => if y = kk then some vv else m y) (obj' := .map es' clk') ⟨_, _, rfl, hm'⟩
    refine wp_skip' (w' := Go.ChangeMaps.setBlock w b (.map es' clk')) ?_ (hK undef _ ρ H' (.junk _) up)
    rcases ho with ho | ho <;> simp only [execOp, ho, e4, e2.sc_inv, e3.sc_inv, Sem.run_bind, hrun, Result.andThen_ok, Sem.run_pure]
  | @mkmA _ _ _ t z tk d s hc ho hd ht hw =>
    obtain ⟨ρ', r1, H', up⟩ := H.allocSW hw (.map fun _ => none) (.map #[] 0) ⟨_, _, rfl, MOk.empty⟩
    refine wp_val (u := .map (some w.heap.size)) (w' := w.alloc (.map #[] 0)) ?_ (hK _ _ ρ' H' (.mref _ _ r1) up)
    simp [execOp, ho, Instr.makeMap]
  | @insA _ _ _ t y0 k v tk m kk vv z s hc ho hx ht hm hk hv hn =>
    have hops : ∀ y, y = .tmp y0 ∨ y = k ∨ y = v → y ∈ o.op.operands := by
      rw [ho]; intro y hy; simpa [Op.operands] using hy
    have e1 := he (.tmp y0) (hops _ (by simp))
    have e2 := he k (hops k (by simp))
    have e3 := he v (hops v (by simp))
    rw [hx] at e1; rw [hk] at e2; rw [hv] at e3
    obtain ⟨b, e4, r1⟩ : ∃ b, a.eval (.tmp y0) = .map (some b) ∧ ρ tk = some (b, 0) := by
      generalize a.eval (.tmp y0) = u at e1
      cases e1 with | mref _ b hr => exact ⟨b, rfl, hr⟩
    obtain ⟨b0, obj, q1, q2, q3, es, clk, rfl, q4⟩ := H.slive tk _ hm
    rw [r1] at q1; cases q1
    obtain ⟨kt, el, q, u1, u2, _⟩ := s.und
    obtain ⟨es', clk', hrun, hm'⟩ := run_upd (P := P) u1 u2 q3 q4 kk vv
    obtain ⟨H', up⟩ := H.writeS hm r1 (c' := .map fun y => if y = kk then some vv else m y) (obj' := .map es' clk') ⟨_, _, rfl, hm'⟩
    refine wp_skip' (w' := Go.ChangeMaps.setBlock w b (.map es' clk')) ?_ (hK undef _ ρ H' (.junk _) up)
    simp only [execOp, ho, e4, e2.sc_inv, e3.sc_inv, Sem.run_bind, hrun, Result.andThen_ok, Sem.run_pure]
  | @mvz _ _ x tk m ho hx hm =>
    have e1 := he x (by rcases ho with ho | ho <;> (rw [ho]; simp [Op.operands]))
    rw [hx] at e1
    obtain ⟨b, e4, r1⟩ : ∃ b, a.eval x = .map (some b) ∧ ρ tk = some (b, 0) := by
      generalize a.eval x = u at e1
      cases e1 with | mref _ b hr => exact ⟨b, rfl, hr⟩
    obtain ⟨H', up, hv⟩ := H.killS hm r1
    refine wp_val (u := .map (some b)) (w' := w) ?_ (hK _ w ρ H' hv up)
    rcases ho with ho | ho <;> simp [execOp, ho, e4]
  | @lenm _ _ _ x t m z ks s ho hx hn hm =>
    have e1 := he x (ops_mem ho (by simp [Op.operands, Call.operands]))
    rw [hx] at e1
    obtain ⟨b, es, clk, e3, q3, q4⟩ : ∃ b es clk, a.eval x = .map (some b) ∧ w.heap[b]? = some (.map es clk) ∧ MOk es clk m := by
      generalize a.eval x = u at e1
      cases e1 with | fmap _ b h1 h2 h3 => obtain ⟨es, clk, h4, h5⟩ := h3; exact ⟨b, es, clk, rfl, h4, h5⟩
    obtain ⟨kt, el, q, u1, u2, i, u3, u4⟩ := s.und
    refine wp_ok1 H hK (u := .int .i64 (ks.length : Nat)) ?_ (.sc _)
    have hr := run_lenM (P := P) (w := w) u1 q3 o.type
    rw [q4.size hn hm] at hr
    simp [execOp, ho, resolve, invoke, builtin, e3, hr]
  | @mlk _ _ _ t x k cm m kk z s ho hx hk =>
    have e1 := he x (ops_mem ho (by simp [Op.operands]))
    have e2 := he k (ops_mem ho (by simp [Op.operands]))
    rw [hx] at e1; rw [hk] at e2
    obtain ⟨b, es, clk, e3, q3, q4⟩ : ∃ b es clk, a.eval x = .map (some b) ∧ w.heap[b]? = some (.map es clk) ∧ MOk es clk m := by
      generalize a.eval x = u at e1
      cases e1 with | fmap _ b h1 h2 h3 => obtain ⟨es, clk, h4, h5⟩ := h3; exact ⟨b, es, clk, rfl, h4, h5⟩
    obtain ⟨kt, el, q, u1, u2, i, u3, u4⟩ := s.und
    have hz : (zeroValue el).run P w = .ok z w := by simp [zeroValue, typeInfo, u3, u4]
    refine wp_ok1 H hK (u := if cm then .tuple #[(m kk).getD z, .bool (m kk).isSome] else (m kk).getD z) ?_ (lkR_v cm m z kk)
    simp only [execOp, ho, e3, e2.sc_inv, Sem.run_bind, run_look u1 u2 hz q3 q4, Result.andThen_ok, Sem.run_pure]
  | @mlkm _ _ _ t x k cm tk m kk z s hc ho hx hm hk =>
    have e1 := he x (ops_mem ho (by simp [Op.operands]))
    have e2 := he k (ops_mem ho (by simp [Op.operands]))
    rw [hx] at e1; rw [hk] at e2
    obtain ⟨b, e3, r1⟩ : ∃ b, a.eval x = .map (some b) ∧ ρ tk = some (b, 0) := by
      generalize a.eval x = u at e1
      cases e1 with | mref _ b hr => exact ⟨b, rfl, hr⟩
    obtain ⟨b0, obj, q1, q2, q3, es, clk, rfl, q4⟩ := H.slive tk _ hm
    rw [r1] at q1; cases q1
    obtain ⟨kt, el, q, u1, u2, i, u3, u4⟩ := s.und
    have hz : (zeroValue el).run P w = .ok z w := by simp [zeroValue, typeInfo, u3, u4]
    refine wp_ok1 H hK (u := if cm then .tuple #[(m kk).getD z, .bool (m kk).isSome] else (m kk).getD z) ?_ (lkR_v cm m z kk)
    simp only [execOp, ho, e3, e2.sc_inv, Sem.run_bind, run_look u1 u2 hz q3 q4, Result.andThen_ok, Sem.run_pure]
  | @rng _ _ t x m z s ho hx =>
    have e1 := he x (ops_mem ho (by simp [Op.operands]))
    rw [hx] at e1
    obtain ⟨b, es, clk, e3, hz, hlt, q3, q4⟩ : ∃ b es clk, a.eval x = .map (some b) ∧ ¬ Zof Z0 ρ h b ∧ b < w.heap.size ∧ w.heap[b]? = some (.map es clk) ∧ MOk es clk m := by
      generalize a.eval x = u at e1
      cases e1 with | fmap _ b h1 h2 h3 => obtain ⟨es, clk, h4, h5⟩ := h3; exact ⟨b, es, clk, rfl, h1, h2, h4, h5⟩
    obtain ⟨kt, el, q, u1, u2, _⟩ := s.und
    obtain ⟨ρ', r1, H', up⟩ := H.allocS true (.iter m []) (.mapIter (some b) clk #[] clk) ⟨b, #[], es, clk, rfl, hz, hlt, q3, IOk.start q4⟩
    refine wp_val (u := .pointer (some ⟨w.heap.size, 0, none⟩)) (w' := w.alloc (.mapIter (some b) clk #[] clk)) ?_ (hK _ _ ρ' H' (.itr _ _ r1) up)
    simp only [execOp, ho, e3, Sem.run_bind, run_range_map w t kt el b es clk u1 q3, Result.andThen_ok, Sem.run_pure]
  | @ent _ _ _ x tk m pre k v hc ho hx hs =>
    have e1 := he x (ops_mem ho (by simp [Op.operands]))
    rw [hx] at e1
    obtain ⟨b, e3, r1⟩ : ∃ b, a.eval x = .pointer (some ⟨b, 0, none⟩) ∧ ρ tk = some (b, 0) := by
      generalize a.eval x = u at e1
      cases e1 with | itr _ b hr => exact ⟨b, rfl, hr⟩
    obtain ⟨b0, obj, q1, q2, q3, mb, seen, es, clk, rfl, g1, g2, g3, g4⟩ := H.slive tk _ hs
    rw [r1] at q1; cases q1
    refine wp_ok1 H hK (u := .tuple #[.int .i64 k, v]) ?_ (.tup _ _ rfl (fun i hi => by
      match i, hi with
      | 0, _ => exact .sc _
      | 1, _ => exact .sc _
      | i + 2, h => simp at h; omega))
    simp only [execOp, ho, e3, Sem.run_bind, run_entry q3 g3 g4, Result.andThen_ok, Sem.run_pure]
  | @gmk _ _ t kk zp s ho =>
    obtain ⟨ρ', r1, H', up⟩ := H.allocS true (.gmap kk [] []) (.map #[] 0) ⟨_, _, [], rfl, GOk.empty kk, rfl, fun i hi => by simp at hi⟩
    refine wp_val (u := .map (some w.heap.size)) (w' := w.alloc (.map #[] 0)) ?_ (hK _ _ ρ' H' (.mref _ _ r1) up)
    simp [execOp, ho, Instr.makeMap]
  | @gup _ _ t x k v tk kk zp ks ps key s ho hx hm hk hok =>
    have hops : ∀ y, y = x ∨ y = k ∨ y = v → y ∈ o.op.operands := by
      rcases ho with ho | ho <;> (rw [ho]; intro y hy; simpa [Op.operands] using hy)
    have e1 := he x (hops x (by simp))
    have e2 := he k (hops k (by simp))
    have e3 := he v (hops v (by simp))
    rw [hx] at e1; rw [hk] at e2
    have e2 := kpv_inv e2
    obtain ⟨b, e4, r1⟩ : ∃ b, a.eval x = .map (some b) ∧ ρ tk = some (b, 0) := by
      generalize a.eval x = u at e1
      cases e1 with | mref _ b hr => exact ⟨b, rfl, hr⟩
    obtain ⟨b0, obj, q1, q2, q3, es, clk, us, rfl, q4, q5, q6⟩ := H.slive tk _ hm
    rw [r1] at q1; cases q1
    obtain ⟨kt, el, u1, u2, _⟩ := s.und
    obtain ⟨es', clk', hrun, hm'⟩ := run_updG (P := P) u1 u2 q3 q4 hok (a.eval v)
    obtain ⟨l1, l2⟩ := insP_v (ks := ks) (key := key) q5 q6 e3
    obtain ⟨H', up⟩ := H.writeS hm r1 (c' := .gmap kk (insK ks key) (insP ks ps key (e v))) (obj' := .map es' clk') ⟨_, _, _, rfl, hm', l1, l2⟩
    refine wp_skip' (w' := Go.ChangeMaps.setBlock w b (.map es' clk')) ?_ (hK undef _ ρ H' (.junk _) up)
    rcases ho with ho | ho <;> simp only [execOp, ho, e4, e2, Sem.run_bind, hrun, Result.andThen_ok, Sem.run_pure]
  | @glk _ _ _ t x k cm kk zp ks ps key s ho hx hk hok =>
    have e1 := he x (ops_mem ho (by simp [Op.operands]))
    have e2 := he k (ops_mem ho (by simp [Op.operands]))
    rw [hx] at e1; rw [hk] at e2
    have e2 := kpv_inv e2
    obtain ⟨b, es, clk, us, e3, q3, q4, q5, q6⟩ : ∃ b es clk us, a.eval x = .map (some b) ∧ w.heap[b]? = some (.map es clk) ∧ GOk kk es clk ks us ∧ us.length = ps.length ∧ ∀ i, i < ps.length → V ρ (Zof Z0 ρ h) w (ps.getD i .junk) (us.getD i undef) := by
      generalize a.eval x = u at e1
      cases e1 with | gfm _ _ _ b us h1 h2 h3 hl hv => obtain ⟨es, clk, h4, h5⟩ := h3; exact ⟨b, es, clk, us, rfl, h4, h5, hl, hv⟩
    obtain ⟨kt, el, u1, u2, i, z, u3, u4, u5⟩ := s.und
    have hz : (zeroValue el).run P w = .ok z w := by simp [zeroValue, typeInfo, u3, u4]
    refine wp_ok1 H hK (u := if cm then .tuple #[getP ks us key z, .bool (decide (key ∈ ks))] else getP ks us key z) ?_ (lkG_v q5 q6 u5 (by rw [← q5]; exact q4.len.1) cm)
    simp only [execOp, ho, e3, e2, Sem.run_bind, run_lookG u1 u2 hz q3 q4 hok, Result.andThen_ok, Sem.run_pure]
  | @glkm _ _ _ t x k cm tk kk zp ks ps key s hc ho hx hm hk hok =>
    have e1 := he x (ops_mem ho (by simp [Op.operands]))
    have e2 := he k (ops_mem ho (by simp [Op.operands]))
    rw [hx] at e1; rw [hk] at e2
    have e2 := kpv_inv e2
    obtain ⟨b, e3, r1⟩ : ∃ b, a.eval x = .map (some b) ∧ ρ tk = some (b, 0) := by
      generalize a.eval x = u at e1
      cases e1 with | mref _ b hr => exact ⟨b, rfl, hr⟩
    obtain ⟨b0, obj, q1, q2, q3, es, clk, us, rfl, q4, q5, q6⟩ := H.slive tk _ hm
    rw [r1] at q1; cases q1
    obtain ⟨kt, el, u1, u2, i, z, u3, u4, u5⟩ := s.und
    have hz : (zeroValue el).run P w = .ok z w := by simp [zeroValue, typeInfo, u3, u4]
    refine wp_ok1 H hK (u := if cm then .tuple #[getP ks us key z, .bool (decide (key ∈ ks))] else getP ks us key z) ?_ (lkG_v q5 q6 u5 (by rw [← q5]; exact q4.len.1) cm)
    simp only [execOp, ho, e3, e2, Sem.run_bind, run_lookG u1 u2 hz q3 q4 hok, Result.andThen_ok, Sem.run_pure]
  | @grng _ _ t x kk zp ks ps s ho hx =>
    have e1 := he x (ops_mem ho (by simp [Op.operands]))
    rw [hx] at e1
    obtain ⟨b, es, clk, us, e3, hz, hlt, q3, q4, q5, q6⟩ : ∃ b es clk us, a.eval x = .map (some b) ∧ ¬ Zof Z0 ρ h b ∧ b < w.heap.size ∧ w.heap[b]? = some (.map es clk) ∧ GOk kk es clk ks us ∧ us.length = ps.length ∧ ∀ i, i < ps.length → V ρ (Zof Z0 ρ h) w (ps.getD i .junk) (us.getD i undef) := by
      generalize a.eval x = u at e1
      cases e1 with | gfm _ _ _ b us h1 h2 h3 hl hv => obtain ⟨es, clk, h4, h5⟩ := h3; exact ⟨b, es, clk, us, rfl, h1, h2, h4, h5, hl, hv⟩
    obtain ⟨kt, el, u1, u2, _⟩ := s.und
    obtain ⟨ρ', r1, H', up⟩ := H.allocS true (.giter kk ks ps []) (.mapIter (some b) clk #[] clk) ⟨b, #[], es, clk, us, rfl, hz, hlt, q3, q4, IGk.start es, q5, q6⟩
    refine wp_val (u := .pointer (some ⟨w.heap.size, 0, none⟩)) (w' := w.alloc (.mapIter (some b) clk #[] clk)) ?_ (hK _ _ ρ' H' (.itr _ _ r1) up)
    simp only [execOp, ho, e3, Sem.run_bind, run_range_map w t kt el b es clk u1 q3, Result.andThen_ok, Sem.run_pure]
  | @gent _ _ _ x tk kk ks ps pre i hc ho hx hs hi =>
    have e1 := he x (ops_mem ho (by simp [Op.operands]))
    rw [hx] at e1
    obtain ⟨b, e3, r1⟩ : ∃ b, a.eval x = .pointer (some ⟨b, 0, none⟩) ∧ ρ tk = some (b, 0) := by
      generalize a.eval x = u at e1
      cases e1 with | itr _ b hr => exact ⟨b, rfl, hr⟩
    obtain ⟨b0, obj, q1, q2, q3, mb, seen, es, clk, us, rfl, g1, g2, g3, g4, g5, g6, g7⟩ := H.slive tk _ hs
    rw [r1] at q1; cases q1
    refine wp_ok1 H hK (u := .tuple #[kk.val (ks.getD i []), us.getD i undef]) ?_ (.tup _ _ rfl (fun j hj => by
      match j, hj with
      | 0, _ => exact kpv_v
      | 1, _ => exact g7 i hi
      | j + 2, h => simp at h; omega))
    simp only [execOp, ho, e3, Sem.run_bind, run_entryG q3 g3 g4 g5, Result.andThen_ok, Sem.run_pure]
  | @glen _ _ _ x t kk zp ks ps s ho hx =>
    have e1 := he x (ops_mem ho (by simp [Op.operands, Call.operands]))
    rw [hx] at e1
    obtain ⟨b, es, clk, us, e3, q3, q4⟩ : ∃ b es clk us, a.eval x = .map (some b) ∧ w.heap[b]? = some (.map es clk) ∧ GOk kk es clk ks us := by
      generalize a.eval x = u at e1
      cases e1 with | gfm _ _ _ b us h1 h2 h3 hl hv => obtain ⟨es, clk, h4, h5⟩ := h3; exact ⟨b, es, clk, us, rfl, h4, h5⟩
    obtain ⟨kt, el, u1, _⟩ := s.und
    refine wp_ok1 H hK (u := .int .i64 (ks.length : Nat)) ?_ (.sc _)
    simp [execOp, ho, resolve, invoke, builtin, e3, run_lenG u1 q3 q4 o.type]
  | @glenm _ _ _ x t tk kk zp ks ps s hc ho hx hm =>
    have e1 := he x (ops_mem ho (by simp [Op.operands, Call.operands]))
    rw [hx] at e1
    obtain ⟨b, e3, r1⟩ : ∃ b, a.eval x = .map (some b) ∧ ρ tk = some (b, 0) := by
      generalize a.eval x = u at e1
      cases e1 with | mref _ b hr => exact ⟨b, rfl, hr⟩
    obtain ⟨b0, obj, q1, q2, q3, es, clk, us, rfl, q4, q5, q6⟩ := H.slive tk _ hm
    rw [r1] at q1; cases q1
    obtain ⟨kt, el, u1, _⟩ := s.und
    refine wp_ok1 H hK (u := .int .i64 (ks.length : Nat)) ?_ (.sc _)
    simp [execOp, ho, resolve, invoke, builtin, e3, run_lenG u1 q3 q4 o.type]
  | @cpy _ _ _ t x y tk off sz n cs m cs2 el bs zc s hcc ho hx hb hle hm hy h1 =>
    have e1 := he x (ops_mem ho (by simp [Op.operands, Call.operands]))
    have e2 := he y (ops_mem ho (by simp [Op.operands, Call.operands]))
    rw [hx] at e1
    obtain ⟨A2, c2, ey, e2'⟩ := e2.cut hm (Nat.min_le_right n m)
    obtain ⟨A3, c3, news, e3, R2⟩ := srcA.reads (P := P) H hy e2'
    obtain ⟨b1, b2, b3, b4, b5⟩ := R2
    have b3' : (Builtin.firstCells sz (min n m) (.slice A2 m c2)).run P w = .ok news.toArray w := by
      cases A2 <;> exact b3
    obtain ⟨cap, A, ex, g1, g2, g3⟩ := e1.ref_inv
    obtain ⟨i, z, q1, q2, q3, q4, q5⟩ := s.info
    have hu1 : ∀ u ∈ news, u.oneCell' = true := fun u hu => by
      obtain ⟨i, hi, rfl⟩ := List.getElem_of_mem hu
      have hv := b5 i (by omega)
      rw [show news.getD i undef = news[i] by simp [List.getD, hi], show cs2.getD i .junk = cs2[i]'(by omega) by simp [List.getD, show i < cs2.length by omega]] at hv
      exact hv.one (h1 _ (List.getElem_mem _))
    have hqn : min n m ≤ n := Nat.min_le_left n m
    have hmul : min n m * sz ≤ n * sz := Nat.mul_le_mul_right _ hqn
    by_cases hc : cap = 0
    · have hn0 : n = 0 := by omega
      subst hn0
      have hq0 : min 0 m = 0 := Nat.zero_min m
      have hcs2 : cs2 = [] := List.length_eq_zero_iff.1 (by rw [b2, hq0, Nat.zero_mul])
      have hnw : news = [] := List.length_eq_zero_iff.1 (by rw [b1, hq0, Nat.zero_mul])
      have hset : h.set tk (cs.take off ++ cs2 ++ cs.drop (off + min 0 m * sz)) = h := by
        subst hcs2
        rw [hq0, Nat.zero_mul, Nat.add_zero, List.append_nil, List.take_append_drop]
        exact HP.set_self hb
      rw [hset] at hK
      refine wp_ok1 H hK (u := .int .i64 (min 0 m : Nat)) ?_ (.sc _)
      subst hnw
      have hr := run_cpy (P := P) (w := w) (w' := w) (ty := o.type) s (A := A) (cap := cap) b3' (fun ad _ => by simp [storeCells]) (fun _ => rfl)
      simp [execOp, ho, resolve, invoke, builtin, ex, ey, hr]
    · obtain ⟨b, k, arr, T, r1, rfl, r3, r4⟩ := g3 hc
      rcases H.live tk cs hb with ⟨_, k1⟩ | ⟨b', o', arr', T', k1, k2, k3, k4, k5⟩
      · rw [r1] at k1; cases k1
      rw [r1] at k1; cases k1
      rw [r3] at k3; cases k3
      have hcl : cs2.length = min n m * sz := b2
      have hnl : news.length = min n m * sz := b1
      have hlen : (cs.take off ++ cs2 ++ cs.drop (off + min n m * sz)).length = cs.length := by simp; omega
      have hst := run_storeCells_at P b (k + off) T news 0 arr w r3 (by omega) hu1
      simp only [Nat.add_zero] at hst
      obtain ⟨H', up⟩ := H.write hb r1 r3 (arr.toList.take (k + off) ++ news ++ arr.toList.drop (k + off + news.length)).toArray (by simp; omega) (cs.take off ++ cs2 ++ cs.drop (off + min n m * sz)) (by omega) (fun i hi => by
        rw [hlen] at hi
        rw [show ∀ (l : List Value) j, l.toArray.getD j undef = l.getD j undef from fun l j => by simp [Array.getD, List.getD]; split <;> simp_all]
        simp only [List.getD, List.append_assoc]
        by_cases c1 : i < off
        · have := k5 i hi
          simp only [List.getD] at this
          rw [List.getElem?_append_left (by simp; omega), List.getElem?_take, if_pos c1, List.getElem?_append_left (by simp; omega), List.getElem?_take, if_pos (by omega)]
          have hi2 : k + i < arr.size := by omega
          simpa [Array.getD, hi2] using this
        · have y1 : (List.take off cs ++ (cs2 ++ List.drop (off + min n m * sz) cs))[i]? = (cs2 ++ List.drop (off + min n m * sz) cs)[i - off]? := by
            rw [List.getElem?_append_right (by simp; omega)]
            congr 1; simp; omega
          have y2 : (List.take (k + off) arr.toList ++ (news ++ List.drop (k + off + news.length) arr.toList))[k + i]? = (news ++ List.drop (k + off + news.length) arr.toList)[i - off]? := by
            rw [List.getElem?_append_right (by simp; omega)]
            congr 1; simp; omega
          rw [y1, y2]
          by_cases c2 : i < off + min n m * sz
          · have := b5 (i - off) (by omega)
            simp only [List.getD] at this
            rw [List.getElem?_append_left (by omega), List.getElem?_append_left (by omega)]
            exact this
          · have := k5 i hi
            simp only [List.getD] at this
            rw [List.getElem?_append_right (by omega), List.getElem?_append_right (by omega), List.getElem?_drop, List.getElem?_drop]
            rw [show off + min n m * sz + (i - off - cs2.length) = i by omega, show k + off + news.length + (i - off - news.length) = k + i by omega]
            have hi2 : k + i < arr.size := by omega
            simpa [Array.getD, hi2] using this)
      have hr := run_cpy (P := P) (ty := o.type) s (A := some ⟨b, k + off, none⟩) (cap := cap) b3' (fun ad e => by cases e; exact hst) (fun e => by cases e)
      refine wp_val (u := .int .i64 (min n m : Nat)) (w' := w.setRow b _) ?_ (hK _ _ ρ H' (.sc _) up)
      simp [execOp, ho, resolve, invoke, builtin, ex, ey, hr]
  | @callb _ _ _ f xs ats args r hc ho ha hcl hs hf =>
    obtain ⟨hl, hv⟩ := map_args ha a.eval Z0 (fun x hx => V.bw H (he x (ops_mem ho (by simp [Op.operands, Call.operands]; right; simpa using hx))))
    refine sound_call ho hs Z0 (fun b hb => H.zlt b (.inl hb)) hl hcl hv (fun u w' h1 h2 => hK u w' ρ (H.step h2) (V.flat_any hf h1) (fun pv x hx => hx.ext (Ext.of_below h2) (fun _ _ h => h) (fun _ _ h => h)))
  | @mk _ _ _ t x y k1 k2 el sz bs zc n m s hcc ho hx hy hnm hm hm2 =>
    have e1 := he x (ops_mem ho (by simp [Op.operands]))
    have e2 := he y (ops_mem ho (by simp [Op.operands]))
    rw [hx] at e1; rw [hy] at e2
    obtain ⟨i, z, q1, q2, q3, q4, q5⟩ := s.info
    have hb' : (i.bytes : Int) * (m : Int) ≤ 281474976710656 := by
      rw [q3, ← Int.natCast_mul]; omega
    have hr := run_make (P := P) w t el i z s.und q1 q4 k1 k2 n m (by omega) (by omega) hb' (by omega)
    simp only [Int.toNat_natCast] at hr
    have hzs : z.cells.size = sz := by rw [← s.zlen, ← q5]; simp
    obtain ⟨ρ', r1, H', up⟩ := H.alloc false (madeCells z.cells (m * i.size)) el ((List.replicate n (zc.map ofConst.ofCell)).flatten)
      (by rw [flat_len, List.length_map, s.zlen, size_madeCells, q2]; exact Nat.mul_le_mul_right _ hnm)
      (fun j hj => zero_cells s.zlen s.pos n _ (fun j hj => by
        rw [made_get _ _ _ (by rw [q2]; exact Nat.lt_of_lt_of_le hj (Nat.mul_le_mul_right _ hnm)) (by rw [hzs]; exact s.pos), q5, hzs]) j hj)
    refine wp_val (u := .slice (some ⟨w.heap.size, 0, none⟩) n m) ?_ (hK _ _ ρ' H' (.ref _ _ _ _ _ _ hnm (by unfold maxLen; omega) (fun _ => ⟨_, _, madeCells z.cells (m * i.size), el, r1, rfl, by
      show (w.heap.push _)[w.heap.size]? = _
      simp, by rw [size_madeCells, q2]; omega⟩)) up)
    simp only [execOp, ho, e1.sc_inv, e2.sc_inv, Sem.run_bind, hr, Result.andThen_ok, Sem.run_pure]
  | @sll _ _ _ t x lo hi cl sz' sz n cs zl zh el bs zc s ho hx hs hl hh h0 h1 h2 =>
    have e1 := he x (ops_mem ho (by simp [Op.operands]))
    rw [hx] at e1
    obtain ⟨cap, A, f, e3, g1, g2, g3, g4, g5, g6⟩ := e1.lst_inv
    rw [e3] at e1
    have hr := run_sl (w := w) (ρ := ρ) (a := a) s (A := A) (cap := cap) hl hh (fun x' hx' => he x' (ops_mem ho (by simp [Op.operands, hx']))) (fun x' hx' => he x' (ops_mem ho (by simp [Op.operands, hx']))) h0 h1 h2 g1
    refine wp_ok1 H hK (u := sliced A zl.toNat zh.toNat cap sz) ?_ (V.cutl s.pos hs e1 (by omega) (by omega) (by omega) (Nat.le_refl _) (fun hc => ?_))
    · simp only [execOp, ho, e3, Option.map_none, Sem.run_bind, hr, Result.andThen_ok, Sem.run_pure]
    · cases hi with
      | some y => simp at hc
      | none =>
        simp only [bndI] at hh
        have := g2 (by simpa using hc)
        omega
  | @slr3 _ _ _ t x lo hi mx tk off sz n zl zh el bs zc s ho hx hl hh hm h0 h1 h2 =>
    have e1 := he x (ops_mem ho (by simp [Op.operands]))
    rw [hx] at e1
    obtain ⟨cap, A, e3, g1, g2, g3⟩ := e1.ref_inv
    rw [e3] at e1
    obtain ⟨k1, hk1⟩ := hh
    obtain ⟨k2, hk2⟩ := hm
    have e4 := he hi (ops_mem ho (by simp [Op.operands]))
    have e5 := he mx (ops_mem ho (by simp [Op.operands]))
    rw [hk1] at e4; rw [hk2] at e5
    have hr : (Instr.sliceAt t (.slice A n cap) (lo.map a.eval) (some (.int k1 zh)) (some (.int k2 zh))).run P w = .ok (sliced A zl.toNat zh.toNat zh.toNat sz) w := by
      rw [run_sliceAt_slice w t _ _ _ _ s.elem.1]
      cases lo with
      | none =>
        simp only [bndI] at hl; subst hl
        simp only [Option.map_none]
        rw [run_slice_hm w t A n cap s.elem.1 k1 k2 zh zh (by omega) (Int.le_refl _) (by omega), s.elem.2, s.run_size]; simp
      | some y =>
        obtain ⟨k, hk⟩ := hl
        have hx := he y (ops_mem ho (by simp [Op.operands]))
        rw [hk] at hx
        simp only [Option.map_some, hx.sc_inv]
        rw [run_slice_lhm w t A n cap s.elem.1 k k1 k2 zl zh zh h0 h1 (Int.le_refl _) (by omega), s.elem.2, s.run_size]; simp
    refine wp_ok1 H hK (u := sliced A zl.toNat zh.toNat zh.toNat sz) ?_ (V.cutr e1 (by omega) (by omega) (Nat.le_refl _) (by omega))
    simp only [execOp, ho, e3, Option.map_some, e4.sc_inv, e5.sc_inv, Sem.run_bind, hr, Result.andThen_ok, Sem.run_pure]
  | @slr _ _ _ t x lo hi tk off sz n zl zh el bs zc s ho hx hl hh h0 h1 h2 =>
    have e1 := he x (ops_mem ho (by simp [Op.operands]))
    rw [hx] at e1
    obtain ⟨cap, A, e3, g1, g2, g3⟩ := e1.ref_inv
    rw [e3] at e1
    have hr := run_sl (w := w) (ρ := ρ) (a := a) s (A := A) (cap := cap) hl hh (fun x' hx' => he x' (ops_mem ho (by simp [Op.operands, hx']))) (fun x' hx' => he x' (ops_mem ho (by simp [Op.operands, hx']))) h0 h1 h2 g1
    refine wp_ok1 H hK (u := sliced A zl.toNat zh.toNat cap sz) ?_ (V.cutr e1 (by omega) (by omega) (by omega) (Nat.le_refl _))
    simp only [execOp, ho, e3, Option.map_none, Sem.run_bind, hr, Result.andThen_ok, Sem.run_pure]
  | @apr _ _ _ t x y tk off sz n cs m cs2 el bs zc s hcc ho hx hb hle hy h1 hb1 hb2 =>
    have e1 := he x (ops_mem ho (by simp [Op.operands, Call.operands]))
    have e2 := he y (ops_mem ho (by simp [Op.operands, Call.operands]))
    rw [hx] at e1
    obtain ⟨A2, c2, news, ey, R2⟩ := srcA.reads (P := P) H hy e2
    rw [ey] at R2
    obtain ⟨A1, c1, olds, ex, R1⟩ := srcA.reads (P := P) H (cs := (cs.drop off).take (n * sz)) (show srcA h (.ref tk off sz n) sz n _ from ⟨rfl, rfl, cs, hb, hle, rfl⟩) e1
    rw [ex] at R1
    obtain ⟨cap, A, e3, g1, g2, g3⟩ := e1.ref_inv
    rw [ex] at e3
    obtain rfl : A = A1 := by cases e3; rfl
    obtain rfl : cap = c1 := by cases e3; rfl
    clear e3
    obtain ⟨H2, up2⟩ := H.kill tk
    by_cases hroom : n + m ≤ cap
    · by_cases hc : cap = 0
      · have hn0 : n = 0 := by omega
        have hm0 : m = 0 := by omega
        subst hn0 hm0 hc
        have hcs2 : cs2 = [] := List.length_eq_zero_iff.1 (by simpa using R2.2.1)
        subst hcs2
        obtain ⟨H3, up3⟩ := H2.empty false
        have hnil : (cs.drop off).take (0 * sz) ++ [] = ([] : List PV) := by simp
        rw [hnil] at hK
        refine wp_val (u := .slice A 0 0) (w' := w) ?_ (hK _ _ ρ H3 (.ref _ _ _ _ _ _ (Nat.le_refl _) (by unfold maxLen; omega) (fun h => absurd rfl h)) (fun pv u hv => up3 _ _ (up2 _ _ hv)))
        simp [execOp, ho, resolve, invoke, builtin, ex, ey, run_app_none s]
      · obtain ⟨b, k, arr, T, r1, rfl, r3, r4⟩ := g3 hc
        rcases H.live tk cs hb with ⟨_, k1⟩ | ⟨b', o', arr', T', k1, k2, k3, k4, k5⟩
        · rw [r1] at k1; cases k1
        rw [r1] at k1; cases k1
        rw [r3] at k3; cases k3
        obtain ⟨b1, b2, b3, b4, b5⟩ := R2
        have hmul : n * sz + m * sz ≤ cap * sz := by rw [← Nat.add_mul]; exact Nat.mul_le_mul_right _ hroom
        have hu1 : ∀ u ∈ news, u.oneCell' = true := fun u hu => by
          obtain ⟨i, hi, rfl⟩ := List.getElem_of_mem hu
          have hv := b5 i (by omega)
          rw [show news.getD i undef = news[i] by simp [List.getD, hi], show cs2.getD i .junk = cs2[i]'(by omega) by simp [List.getD, show i < cs2.length by omega]] at hv
          exact hv.one (h1 _ (List.getElem_mem _))
        have hr := run_app_room (P := P) (ty := o.type) s r3 b3 hroom (show k + off + n * sz + news.length ≤ arr.size by omega) hu1
        have hlc : (cs.take (off + n * sz) ++ cs2).length = off + n * sz + m * sz := by simp; omega
        obtain ⟨H3, up3⟩ := H.write hb r1 r3 (arr.toList.take (k + off + n * sz) ++ news ++ arr.toList.drop (k + off + n * sz + news.length)).toArray (by simp; omega) (cs.take (off + n * sz) ++ cs2) (by omega) (fun i hi => by
          rw [hlc] at hi
          rw [show ∀ (l : List Value) j, l.toArray.getD j undef = l.getD j undef from fun l j => by simp [Array.getD, List.getD]; split <;> simp_all]
          simp only [List.getD, List.append_assoc]
          by_cases c1 : i < off + n * sz
          · have := k5 i (by omega)
            simp only [List.getD] at this
            rw [List.getElem?_append_left (by simp; omega), List.getElem?_take, if_pos c1, List.getElem?_append_left (by simp; omega), List.getElem?_take, if_pos (by omega)]
            have hi2 : k + i < arr.size := by omega
            simpa [Array.getD, hi2] using this
          · have := b5 (i - (off + n * sz)) (by omega)
            simp only [List.getD] at this
            rw [List.getElem?_append_right (by simp; omega), List.getElem?_append_right (by simp; omega), List.getElem?_append_left (by simp; omega)]
            rw [show i - (List.take (off + n * sz) cs).length = i - (off + n * sz) by simp; omega, show k + i - (List.take (k + off + n * sz) arr.toList).length = i - (off + n * sz) by simp; omega]
            exact this)
        obtain ⟨ρ', r5, H4, up4⟩ := H3.rename false (h.set_same tk (cs.take (off + n * sz) ++ cs2)) r1 off (by omega)
        have hh : ((h.set tk (cs.take (off + n * sz) ++ cs2)).kill tk).add false ((cs.take (off + n * sz) ++ cs2).drop off) = (h.kill tk).add false ((cs.drop off).take (n * sz) ++ cs2) := by
          have e4 : (cs.take (off + n * sz) ++ cs2).drop off = (cs.drop off).take (n * sz) ++ cs2 := by
            rw [List.drop_append_of_le_length (by simp; omega), List.drop_take]
            congr 2; omega
          rw [e4]
          unfold HP.add HP.kill HP.set
          congr 1
          funext z
          simp only
          cases Nat.beq z tk <;> rfl
        rw [hh] at H4 up4
        refine wp_val ?_ (hK _ _ ρ' H4 (.ref _ 0 sz (n + m) cap _ hroom g2 (fun _ => ⟨b, k + off, _, T, r5, rfl, setRow_heap _ _ _ _ _ _ r3, by simp; omega⟩)) (fun pv u hv => up4 _ _ (up3 _ _ hv)))
        simp [execOp, ho, resolve, invoke, builtin, ex, ey, hr]
    · exact app_grow s H ho ex ey R1 R2 (by omega) hb1 hb2 H2 rfl up2 hK
  | @apl _ _ _ t x y sz' sz n cs m cs2 el bs zc s hcc ho hx hs hy hm hb1 hb2 =>
    have e1 := he x (ops_mem ho (by simp [Op.operands, Call.operands]))
    have e2 := he y (ops_mem ho (by simp [Op.operands, Call.operands]))
    rw [hx] at e1
    obtain ⟨A2, c2, news, ey, R2⟩ := srcA.reads (P := P) H hy e2
    rw [ey] at R2
    obtain ⟨A1, c1, olds, ex, R1⟩ := srcA.reads (P := P) H (cs := cs) (show srcA h (.lst true sz' n cs) sz n _ from ⟨rfl, rfl, hs.symm⟩) e1
    rw [ex] at R1
    obtain ⟨cap, A, f, e3, g1, g2, g3, g4, g5, g6⟩ := e1.lst_inv
    rw [ex] at e3
    obtain rfl : A = A1 := by cases e3; rfl
    obtain rfl : cap = c1 := by cases e3; rfl
    clear e3
    exact app_grow s H ho ex ey R1 R2 (by have := g2 rfl; omega) hb1 hb2 H rfl (fun _ _ h => h) hK
  | @ap0 _ _ _ t x y cl sz' sz n cs cs2 el bs zc s hc ho hx hy =>
    have e1 := he x (ops_mem ho (by simp [Op.operands, Call.operands]))
    have e2 := he y (ops_mem ho (by simp [Op.operands, Call.operands]))
    rw [hx] at e1
    obtain ⟨A2, c2, news, ey, R2⟩ := srcA.reads (P := P) H hy e2
    rw [ey] at R2
    obtain ⟨cap, A, f, e3, g1, g2, g3, g4, g5, g6⟩ := e1.lst_inv
    refine wp_ok1 H hK (u := .slice A n cap) ?_ (e3 ▸ e1)
    simp [execOp, ho, resolve, invoke, builtin, e3, ey, run_app_none s g1]
  | @bsl _ _ _ t len parts el sz bs zc cs s ho hb hf =>
    obtain ⟨arr, r1, r2, r3⟩ := run_bsl (w := w) (ρ := ρ) (a := a) s hb hf (fun x hx => he x.2 (ops_mem ho (by simp [Op.operands]; exact ⟨x.1, by simpa using hx⟩)))
    have hbw : Below w.heap.size w (w.alloc (.cells arr el)) := (Below.refl _ _).alloc (Nat.le_refl _) _
    have up : ∀ pv u, V ρ (Zof Z0 ρ h) w pv u → V ρ (Zof Z0 ρ h) (w.alloc (.cells arr el)) pv u := fun pv u hv => hv.ext (Ext.of_below hbw) (fun _ _ h => h) (fun _ _ h => h)
    refine wp_val (u := .slice (some ⟨w.heap.size, 0, none⟩) len len) (w' := w.alloc (.cells arr el)) ?_ (hK _ _ ρ (H.step hbw) ?_ up)
    · simp only [execOp, ho, Sem.run_bind, r1, Result.andThen_ok, Sem.run_pure]
    · refine .lst _ _ _ _ _ _ (fun i => arr.getD i undef) (Nat.le_refl _) (fun _ => rfl) ?_ r3 (fun _ => ⟨w.heap.size, 0, rfl, fun hz => Nat.lt_irrefl _ (H.zlt _ hz), by simp, fun i hi => ?_⟩) (fun i hi => up _ _ (r2.2 i hi))
      · have := s.pos
        have : len ≤ len * sz := Nat.le_mul_of_pos_right _ this
        unfold maxLen; omega
      · have hi' : i < arr.size := by rw [← r2.1]; exact hi
        simp [Array.getD, hi']
  | @bslm _ _ _ t len parts el sz bs zc cs s hcc ho hb hf =>
    obtain ⟨arr, r1, r2, r3⟩ := run_bsl (w := w) (ρ := ρ) (a := a) s hb hf (fun x hx => he x.2 (ops_mem ho (by simp [Op.operands]; exact ⟨x.1, by simpa using hx⟩)))
    obtain ⟨ρ', q1, H', up⟩ := H.alloc false arr el cs (by rw [r2.1]; exact Nat.le_refl _) r2.2
    refine wp_val (u := .slice (some ⟨w.heap.size, 0, none⟩) len len) (w' := w.alloc (.cells arr el)) ?_ (hK _ _ ρ' H' (.ref _ _ _ _ _ _ (Nat.le_refl _) ?_ (fun _ => ⟨_, _, arr, el, q1, rfl, by
      show (w.heap.push _)[w.heap.size]? = _
      simp, by rw [← r2.1, r3]; omega⟩)) up)
    · simp only [execOp, ho, Sem.run_bind, r1, Result.andThen_ok, Sem.run_pure]
    · have := s.pos
      have : len ≤ len * sz := Nat.le_mul_of_pos_right _ this
      unfold maxLen; omega
  | @bld _ _ _ t parts zc pl cs s ho hf =>
    obtain ⟨i, z, q1, q2, q3⟩ := s.zero
    have hva : VA ρ (Zof Z0 ρ h) w (zc.map ofConst.ofCell) z.cells := by
      refine ⟨by rw [← q3]; simp, fun j hj => ?_⟩
      have := map_ofCell (ρ := ρ) (Z0 := Z0) (h := h) (w := w) zc j hj
      rw [← q3] at this ⊢
      simpa using this
    rcases s.und with ⟨fs, u1, u2, u3⟩ | ⟨len, el, sz, u1, ⟨i2, u2, u3⟩, u4⟩
    · have hplaces : ∀ w : World, (fs.mapM (fun f => do pure (f.offset, ← sizeOf f.type)) : Sem (Array (Nat × Nat))).run P w = .ok pl.toArray w := by
        intro w
        have key : ∀ (l : List Field) (pl : List (Nat × Nat)), l.map (·.offset) = pl.map (·.1) → l.map (fun f => (P.info? f.type).map (·.size)) = pl.map (fun x => some x.2) →
            (l.mapM (fun f => do pure (f.offset, ← sizeOf f.type)) : Sem (List (Nat × Nat))).run P w = .ok pl w := by
          intro l
          induction l with
          | nil => intro pl h1 _; cases pl <;> simp at h1 ⊢
          | cons f l ih =>
            intro pl h1 h2
            cases pl with
            | nil => simp at h1
            | cons x pl =>
              simp at h1 h2
              obtain ⟨i, hi1, hi2⟩ := h2.1
              have := ih pl h1.2 h2.2
              simp only [List.mapM_cons, Sem.run_bind, run_size hi1, Result.andThen_ok, Sem.run_pure, this]
              rw [h1.1, hi2]
        have := key fs.toList pl u2 u3
        rw [show fs.mapM (fun f => do pure (f.offset, ← sizeOf f.type) : Field → Sem (Nat × Nat)) = List.toArray <$> fs.toList.mapM (fun f => do pure (f.offset, ← sizeOf f.type) : Field → Sem (Nat × Nat)) from Array.mapM_eq_mapM_toList .., Sem.run_map, this]
        rfl
      obtain ⟨arr, r1, r2⟩ := fill_ok (place' := fun i => pl.toArray[i]?) (fun i x hx => by simpa using hx) parts.toList _ _ _ hf (fun x hx => he x.2 (ops_mem ho (by simp [Op.operands]; exact ⟨x.1, by simpa using hx⟩))) hva
      have hpt : (parts.map fun x => (x.1, a.eval x.2)).toList = parts.toList.map fun x => (x.1, a.eval x.2) := by simp
      rw [← hpt] at r1
      refine wp_ok1 H hK (u := .agg arr) ?_ (.agg _ _ r2.1 r2.2)
      have hz : (zeroValue t).run P w = .ok z w := by simp [zeroValue, typeInfo, q1, q2]
      simp only [execOp, ho, Sem.run_bind, Instr.build, hz, run_underlying u1, hplaces, Result.andThen_ok, Sem.run_pure]
      have r1' := r1
      simp only [r1']
      rfl
    · obtain ⟨arr, r1, r2⟩ := fill_ok (place' := fun i => some (i * sz, sz)) (fun i x hx => by
        rw [u4, List.getElem?_map] at hx
        obtain ⟨y, hy, rfl⟩ := Option.map_eq_some_iff.1 hx
        obtain ⟨hy1, hy2⟩ := List.getElem?_eq_some_iff.1 hy
        rw [List.getElem_range] at hy2
        rw [hy2]) parts.toList _ _ _ hf (fun x hx => he x.2 (ops_mem ho (by simp [Op.operands]; exact ⟨x.1, by simpa using hx⟩))) hva
      have hpt : (parts.map fun x => (x.1, a.eval x.2)).toList = parts.toList.map fun x => (x.1, a.eval x.2) := by simp
      rw [← hpt] at r1
      refine wp_ok1 H hK (u := .agg arr) ?_ (.agg _ _ r2.1 r2.2)
      have hz : (zeroValue t).run P w = .ok z w := by simp [zeroValue, typeInfo, q1, q2]
      simp only [execOp, ho, Sem.run_bind, Instr.build, hz, run_underlying u1, run_size u2, u3, Result.andThen_ok, Sem.run_pure]
      have r1' := r1
      simp only [r1']
      rfl
  | @sll3 _ _ _ t x lo hi mx cl sz' sz n cs zl zh el bs zc s ho hx hs hl hh hm h0 h1 h2 =>
    have e1 := he x (ops_mem ho (by simp [Op.operands]))
    rw [hx] at e1
    obtain ⟨cap, A, f, e3, g1, g2, g3, g4, g5, g6⟩ := e1.lst_inv
    rw [e3] at e1
    obtain ⟨k1, hk1⟩ := hh
    obtain ⟨k2, hk2⟩ := hm
    have e4 := he hi (ops_mem ho (by simp [Op.operands]))
    have e5 := he mx (ops_mem ho (by simp [Op.operands]))
    rw [hk1] at e4; rw [hk2] at e5
    have hr : (Instr.sliceAt t (.slice A n cap) (lo.map a.eval) (some (.int k1 zh)) (some (.int k2 zh))).run P w = .ok (sliced A zl.toNat zh.toNat zh.toNat sz) w := by
      rw [run_sliceAt_slice w t _ _ _ _ s.elem.1]
      cases lo with
      | none =>
        simp only [bndI] at hl; subst hl
        simp only [Option.map_none]
        rw [run_slice_hm w t A n cap s.elem.1 k1 k2 zh zh (by omega) (Int.le_refl _) (by omega), s.elem.2, s.run_size]; simp
      | some y =>
        obtain ⟨k, hk⟩ := hl
        have hx := he y (ops_mem ho (by simp [Op.operands]))
        rw [hk] at hx
        simp only [Option.map_some, hx.sc_inv]
        rw [run_slice_lhm w t A n cap s.elem.1 k k1 k2 zl zh zh h0 h1 (Int.le_refl _) (by omega), s.elem.2, s.run_size]; simp
    refine wp_ok1 H hK (u := sliced A zl.toNat zh.toNat zh.toNat sz) ?_ (V.cutl s.pos hs e1 (by omega) (by omega) (Nat.le_refl _) (by omega) (fun _ => rfl))
    simp only [execOp, ho, e3, Option.map_some, e4.sc_inv, e5.sc_inv, Sem.run_bind, hr, Result.andThen_ok, Sem.run_pure]
end Go.Proofs.YtkmkcbkfakoomaaDoor
