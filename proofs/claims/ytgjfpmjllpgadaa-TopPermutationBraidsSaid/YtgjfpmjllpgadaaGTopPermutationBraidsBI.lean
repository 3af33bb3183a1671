/- slices.Backward at lists of ints, as a range over a function wants it. No condition of its own. -/
import Derived.RangeFuncBox
import Derived.RangeFuncLeaves
import Derived.RangeFuncNested
import Derived.Shelf.Abstract
import Derived.WalkKit
import Derived.OwnWalkIn
import Derived.TacticsInMore
import Derived.LoopNIn
import Derived.LoopIn
import Derived.Maps.AppendAt
import Derived.Test.YtgjfpmjllpgadaaGTopPermutationBraidsBE
set_option linter.unusedVariables false
set_option linter.unusedSimpArgs false
namespace Go.Proofs.Ytgjfpmjllpgadaa
open Go.RowKit Go.Shelf
attribute [local go_sem] Oper.semAt_some

def upto {α : Type} (f : Nat → α) (k : Nat) : List α := (List.range k).map f
theorem upto_succ {α : Type} (f : Nat → α) (k : Nat) : upto f (k + 1) = upto f k ++ [f k] := by simp [upto, List.range_succ]
theorem upto_length {α : Type} (f : Nat → α) (k : Nat) : (upto f k).length = k := by simp [upto]
/-- what a round keeps: all below n₀, and the iterator's own box -/
def KpB (n₀ Bs : Nat) (W W' : World) : Prop := Below n₀ W W' ∧ W'.heap[Bs]? = W.heap[Bs]?
theorem KpB.refl (n₀ Bs : Nat) (W : World) : KpB n₀ Bs W W := ⟨Below.refl _ _, rfl⟩
theorem KpB.trans {n₀ Bs : Nat} {A B C : World} (h : KpB n₀ Bs A B) (k : KpB n₀ Bs B C) : KpB n₀ Bs A C := ⟨h.1.trans k.1, k.2.trans h.2⟩
/-- what comes in round j: the index and the value, from the end on -/
def bk (zs : List Int) (j : Nat) : Int × Int := ((zs.length : Int) - 1 - j, zs[zs.length - 1 - j]?.getD 0)

set_option maxRecDepth 100000 in
set_option maxHeartbeats 2000000 in
theorem backward1_in (F : Fence) (n : Nat) (h7 : F.fn 140) (hro : F.round = none) (hn : 1 ≤ n) (l Bs n₀ b off cap : Nat) (zs : List Int) (hreach : zs.length * 8 ≤ 140737488351232) (hb : b < n₀) (J Jx : List (Int × Int) → World → Prop)
    (hY : ∀ pre x W, J pre W → pre.length < zs.length → YieldAt F (n - 1) Try.prog l #[.int .i64 x.1, .int .i64 x.2] W fun e W' =>
      (e = .returned (.bool true) ∧ J (pre ++ [x]) W' ∧ KpB n₀ Bs W W') ∨ (e = .returned (.bool false) ∧ Jx (pre ++ [x]) W'))
    (W : World) (hBs : W.cell? ⟨Bs, 0, none⟩ = some (.slice (some ⟨b, off, none⟩) zs.length cap)) (hc : ∀ j, j < zs.length → W.cell? ⟨b, off + j, none⟩ = some (.int .i64 (zs[j]?.getD 0))) (h0 : J [] W) :
    CallsIn F n Try.prog 140 #[.func (.yield l) #[] #[], .pointer (some ⟨Bs, 0, none⟩)] W fun e W' => (∃ v, e = .returned v) ∧
      ((∃ ys, ys = upto (bk zs) zs.length ∧ J ys W') ∨ (∃ pre, (∃ k, k ≤ zs.length ∧ pre = upto (bk zs) k) ∧ Jx pre W')) := by
  refine callsIn_of_wp Try.func140 rfl h7 ?_ hro
  simp only [Try.ntmps140, List.size_toArray, List.length_cons, List.length_nil, Nat.reduceAdd, Nat.reduceSub, Array.replicate_succ, Array.replicate_zero, List.push_toArray, List.append_toArray, List.nil_append, List.cons_append]
  gi_wp2
  gi_loopw [3] (fun i wr => ∃ k : Nat, k ≤ zs.length ∧ i = .int .i64 ((zs.length : Int) - 1 - k) ∧ J (upto (bk zs) k) wr ∧ KpB n₀ Bs W wr)
    (fun i _ => (intOf i + 1).toNat)
  case atStart => exact ⟨0, Nat.zero_le _, by simp, h0, KpB.refl _ _ _⟩
  case round =>
    obtain ⟨k, hk, rfl, hJs, hnx⟩ := hrel
    have hBx : wr.cell? ⟨Bs, 0, none⟩ = _ := (World.cell?_of_block (w := W) hnx.2).trans hBs
    by_cases hlt : k < zs.length
    · obtain ⟨m, hm⟩ : ∃ m : Nat, zs.length = k + 1 + m := ⟨zs.length - k - 1, by omega⟩
      have e1 : (zs.length : Int) - 1 - k = (m : Int) := by omega
      have hbk : bk zs k = ((m : Int), zs[m]?.getD 0) := by unfold bk; rw [e1, show zs.length - 1 - k = m by omega]
      have hcx := (hnx.1.cell (p := ⟨b, off + m, none⟩) hb).trans (hc m (by omega))
      obtain ⟨fn, tmps, assign, body, hy, hR⟩ := hY _ ((m : Int), zs[m]?.getD 0) wr hJs (by rw [upto_length]; exact hlt)
      dsimp only at hy
      have hml : m < zs.length := by omega
      have hkm := Lib.hid hm
      clear hm
      generalize zs[m]?.getD 0 = v at hcx hy hR hbk
      rw [e1]
      gi_wp2
      refine hR.mono ?_
      rintro e W3 (⟨rfl, hJ3, hk3⟩ | ⟨rfl, hJx3⟩)
      · gi_wp2
        go_roundw
        case rel => exact ⟨k + 1, by omega, by have := hkm.out; first | (simp; done) | (simp; omega), by rw [upto_succ, hbk]; exact hJ3, hnx.trans hk3⟩
        case measure => first | (simp [intOf]; done) | (simp [intOf]; omega)
      · gi_wp2
        refine bodyPost_ret (results_none rfl _ _ _) rfl ?_
        exact ⟨⟨_, rfl⟩, .inr ⟨_, ⟨k + 1, by omega, by rw [upto_succ, hbk]⟩, hJx3⟩⟩
    · obtain rfl : k = zs.length := by omega
      have e1 : (zs.length : Int) - 1 - zs.length = -1 := by omega
      rw [e1]
      gi_wp2
      go_end0
      exact ⟨⟨_, rfl⟩, .inl ⟨_, rfl, hJs⟩⟩

set_option maxRecDepth 100000 in
set_option maxHeartbeats 1000000 in
theorem backward1_nil (F : Fence) (n : Nat) (h7 : F.fn 140) (hro : F.round = none) (l Bs cap : Nat) (A : Option Addr) (J : List (Int × Int) → World → Prop) (W : World) (hBs : W.cell? ⟨Bs, 0, none⟩ = some (.slice A 0 cap)) (h0 : J [] W) :
    CallsIn F n Try.prog 140 #[.func (.yield l) #[] #[], .pointer (some ⟨Bs, 0, none⟩)] W fun e W' => (∃ v, e = .returned v) ∧ J [] W' := by
  refine callsIn_of_wp Try.func140 rfl h7 ?_ hro
  simp only [Try.ntmps140, List.size_toArray, List.length_cons, List.length_nil, Nat.reduceAdd, Nat.reduceSub, Array.replicate_succ, Array.replicate_zero, List.push_toArray, List.append_toArray, List.nil_append, List.cons_append]
  gi_wp2
  gi_loopw [3] (fun i wr => i = .int .i64 (-1) ∧ J [] wr) (fun _ _ => 0)
  case atStart => exact ⟨by simp, h0⟩
  case round =>
    obtain ⟨rfl, hJs⟩ := hrel
    gi_wp2
    go_end0
    exact ⟨⟨_, rfl⟩, hJs⟩
set_option maxHeartbeats 1000000 in
theorem backward_in (F : Fence) (n : Nat) (h5 : F.fn 117) (hro : F.round = none) (a : Option Addr) (len cap : Nat) (w : World) :
    CallsIn F n Try.prog 117 #[.slice a len cap] w fun e w' => e = .returned (.func (.func 140) #[] #[.pointer (some ⟨w.heap.size, 0, none⟩)]) ∧ w' = w.alloc (.cells #[.slice a len cap] 22) := by
  refine callsIn_of_wp Try.func117 rfl h5 ?_ hro
  simp only [Try.ntmps117, List.size_toArray, List.length_cons, List.length_nil, Nat.reduceAdd, Nat.reduceSub, Array.replicate_succ, Array.replicate_zero, List.push_toArray, List.append_toArray, List.nil_append, List.cons_append]
  gi_wp2
  go_ret
  exact ⟨rfl, rfl⟩
/-- the slice holds zs, below n₀ -/
def HInts (n₀ : Nat) (W : World) (A : Option Addr) (zs : List Int) : Prop := zs = [] ∨ ∃ b off, A = some ⟨b, off, none⟩ ∧ b < n₀ ∧ ∀ j, j < zs.length → W.cell? ⟨b, off + j, none⟩ = some (.int .i64 (zs[j]?.getD 0))
theorem HInts.below {n₀ : Nat} {X Y : World} (h : Below n₀ X Y) {A : Option Addr} {zs : List Int} : HInts n₀ X A zs → HInts n₀ Y A zs
  | .inl e => .inl e
  | .inr ⟨b, off, e, hb, hc⟩ => .inr ⟨b, off, e, hb, fun j hj => (h.cell (p := ⟨b, off + j, none⟩) hb).trans (hc j hj)⟩
theorem HInts.of {w : World} {A : Option Addr} {cap : Nat} {zs : List Int} (h : IsInts w A cap zs) : HInts w.heap.size w A zs := by
  by_cases e : zs = []
  · exact .inl e
  · obtain ⟨b, o, rfl, hlt, hc⟩ := h.row e
    exact .inr ⟨b, o, rfl, hlt, fun j hj => by rw [hc j hj]; simp [List.getD]⟩
theorem backward_stops (F : Fence) (n : Nat) (h8 : F.fn 140) (hro : F.round = none) (hn : 1 ≤ n) (Bs n₀ cap : Nat) (A : Option Addr) (zs : List Int) (hreach : zs.length * 8 ≤ 140737488351232) (w : World) (hBs : Bs < w.heap.size) (hn₀ : n₀ ≤ w.heap.size)
    (hc : w.cell? ⟨Bs, 0, none⟩ = some (.slice A zs.length cap)) (hI : HInts n₀ w A zs) :
    SeqStopsK F n Try.prog 140 #[.pointer (some ⟨Bs, 0, none⟩)] (fun x : Int × Int => #[Value.int .i64 x.1, Value.int .i64 x.2]) (KpB n₀ Bs) (fun ys => ys = upto (bk zs) zs.length)
      (fun pre => ∃ k, k ≤ zs.length ∧ pre = upto (bk zs) k) zs.length w := fun l J Jx W hW _ _ hY h0 => by
  have hc' := (hW.cell (p := ⟨Bs, 0, none⟩) hBs).trans hc
  rcases hI.below (hW.mono hn₀) with rfl | ⟨b, off, rfl, hb, hcs⟩
  · exact (backward1_nil F n h8 hro l Bs cap A J W hc' h0).mono fun e W' ⟨he, hj⟩ => ⟨he, .inl ⟨_, rfl, hj⟩⟩
  · exact backward1_in F n h8 hro hn l Bs n₀ b off cap zs hreach hb J Jx hY W hc' hcs h0
theorem kpb_b {n₀ Bs : Nat} {w : World} (hn : n₀ ≤ w.heap.size) (hB : Bs < w.heap.size) (W : World) (l : Nat) (o o' : Obj) (hl : w.heap.size ≤ l) (h : W.heap[l]? = some o) (h1 : o.isCells = false) (h2 : o.isWalk = false) : KpB n₀ Bs W (W.putObj l o') :=
  ⟨belowK_b hn W l o o' hl h h1 h2, World.putObj_heap_other (by omega)⟩
/-- what the loop has appended -/
def negs (pre : List (Int × Int)) : List Int := pre.map fun x => wrap64 (-x.2)
theorem negs_snoc (pre : List (Int × Int)) (x : Int × Int) : negs (pre ++ [x]) = negs pre ++ [wrap64 (-x.2)] := by simp [negs]
theorem negs_len (pre : List (Int × Int)) : (negs pre).length = pre.length := by simp [negs]
theorem neg_wrap {x : Int} (h : -9223372036854775807 ≤ x ∧ x ≤ 9223372036854775807) : wrap64 (-x) = -x := by unfold wrap64; omega

set_option maxRecDepth 100000 in
set_option maxHeartbeats 2000000 in
theorem inverted_in (a : Option Addr) (cap : Nat) (zs : List Int) (w : World) (hbd : ∀ x ∈ zs, -9223372036854775807 ≤ x ∧ x ≤ 9223372036854775807) (hlen : zs.length ≤ 1000000) (hI : HInts w.heap.size w a zs) :
    CallsIn Fence.wide 9 Try.prog 70 #[.slice a zs.length cap] w fun e W' => ∃ A cp, e = .returned (.slice A (negs (upto (bk zs) zs.length)).length (negs (upto (bk zs) zs.length)).length) ∧ W'.ownsRow w.heap.size 3 1 (.slice A (negs (upto (bk zs) zs.length)).length cp) (negs (upto (bk zs) zs.length)).length ((negs (upto (bk zs) zs.length)).map (Value.int .i64)) ∧ Below w.heap.size w W' := by
  have hro : Fence.wide.round = none := rfl
  have h3 : Fence.wide.fn 70 := trivial
  have h4 : Fence.wide.fn 117 := trivial
  have h5 : Fence.wide.fn 140 := trivial
  obtain ⟨i0, hi, hz0, hz1, hz2⟩ := info_parts info3
  refine callsIn_of_wp_marks Try.func70 rfl h3 ?_ hro
  simp only [Try.ntmps70, List.size_toArray, List.length_cons, List.length_nil, Nat.reduceAdd, Nat.reduceSub, Array.replicate_succ, Array.replicate_zero, List.push_toArray, List.append_toArray, List.nil_append, List.cons_append]
  gi_wp2_with (gi_at_call 117; refine (backward_in Fence.wide (9 - 1) h4 hro _ _ _ _).mono ?_; rintro e w' ⟨rfl, rfl⟩)
  have bO := Boxed.new w 22 (.slice none 0 0)
  have bN := Boxed.new (w.alloc (.cells #[.slice none 0 0] 22)) 22 (.slice a zs.length cap)
  rw [World.size_alloc] at bN
  have hB0 : Below w.heap.size w ((w.alloc (.cells #[.slice none 0 0] 22)).alloc (.cells #[.slice a zs.length cap] 22)) := ((Below.refl _ w).alloc (Nat.le_refl _) _).alloc (by simp) _
  refine wpIn_rangeFunc_ownG hro (by omega) (gf := 140) (lb := #[.pointer (some ⟨w.heap.size + 1, 0, none⟩)]) rfl h5 (enters_of Try.func140 (by kernel_rfl) rfl)
    (backward_stops Fence.wide (9 - 1) h5 hro (by omega) (w.heap.size + 1) w.heap.size cap a zs (by omega) _ (by simp) (by simp; omega) bN.cell (hI.below hB0)) KpB.trans (kpb_b (by simp; omega) (by simp)) (Below.refl _ _) (fun _ => rfl)
    (fun pre W => ((∃ v, Boxed W w.heap.size 22 v ∧ W.ownsRow w.heap.size 3 1 v (negs pre).length ((negs pre).map (Value.int .i64)) ∧ True) ∧ Boxed W (w.heap.size + 1) 22 (.slice a zs.length cap)) ∧ Below w.heap.size w W)
    (fun _ _ _ => False)
    (OwnFrom.and (OwnFrom.and (Own.from (holdsRow_own w.heap.size w.heap.size 22 3 1 (fun pre => (negs pre).length) (fun pre => (negs pre).map (Value.int .i64)) (fun _ _ => True)) _) (Own.from (boxed_own _ _ _) _)) (ownFrom_below (Nat.le_refl _) (by simp; omega)))
    (fun _ _ _ _ _ hs _ _ => hs)
    ⟨⟨⟨_, bO.alloc _, World.ownsRow_nil _ _ _ _, trivial⟩, bN⟩, hB0⟩
    (fun x => { tmps := #[.slice a zs.length cap, undef, .slice none 0 0, .pointer (some ⟨w.heap.size, 0, none⟩), undef, .int .i64 x.2, .slice a zs.length cap, .func (.func 140) #[] #[.pointer (some ⟨w.heap.size + 1, 0, none⟩)], .int .i64 x.1, .int .i64 x.2, undef, undef, undef, undef, undef, undef, undef], defers := [] }) ?assign ?body ?done ?stop
  case assign =>
    intro l x W K hK
    gi_wp2
    exact hK
  case body =>
    rintro l pre x W ⟨⟨⟨v, hv, hrow, _⟩, hbx⟩, hB⟩ hlt
    have hc := hv.cell
    have hnl : (negs pre).length ≤ pre.length := by rw [negs_len]; exact Nat.le_refl _
    gi_wp2_with (gi_at_builtin; refine wpListIn_append_own _ rfl _ _ 22 rfl w.heap.size 3 i0 (.int .i64 0) 1 8 Try.underlying22 hi hz0 hz1 hz2 rfl (by decide) _ _ _ rfl (hrow.alloc _) ⟨W.heap.size, 0, none⟩ 1 1 [.int .i64 (wrap64 (-x.2))] rfl rfl (cell_one_new _ _ _) (by simp [Value.oneCell']) (by unfold maxLen; omega) (by omega) (by have := hB.size; simp; omega) ?_; intro v' w1 hown' hgrow _; obtain ⟨g', cap', rfl⟩ := ownsRow_succ hown'; obtain ⟨hv1, hv2, hr2, hk2, hb2⟩ := hv.appended (by decide) hrow hB.size (Nat.le_refl _) hown' hgrow; have hbx1 := (hbx.alloc _).kept hgrow (hbx.not_row (by decide) hrow); have hc1 := hv1.cell; have hf1 := hv1.frozen)
    have hbx2 := hbx1.other (B' := w.heap.size) (by omega) (.slice (some ⟨g', 0, none⟩) ((negs pre).length + 1) cap')
    exact ⟨hk2.from _, ⟨hb2, hbx2.trans hbx.symm⟩, ⟨⟨_, hv2, by rw [negs_snoc]; simpa using hr2, trivial⟩, hbx2⟩, hB.trans hb2⟩
  case done =>
    rintro D ys W hD rfl ⟨⟨⟨v, hv, hrow, _⟩, hbx⟩, hB⟩ hK
    have hc := hv.cell
    obtain ⟨N, hN⟩ : ∃ N, N = negs (upto (bk zs) zs.length) := ⟨_, rfl⟩
    rw [← hN] at hrow
    have hNh := Lib.hid hN
    clear hN
    obtain ⟨A, cp, rfl, hcp1, hcp2⟩ : ∃ A cp, v = .slice A N.length cp ∧ N.length ≤ cp ∧ cp ≤ maxLen := by
      rcases hrow.2 with ⟨rfl, h0⟩ | ⟨g, cp, cur, rfl, _, _, h1, h2, _⟩
      · exact ⟨none, 0, by rw [h0], by omega, Nat.zero_le _⟩
      · exact ⟨_, cp, rfl, h1, h2⟩
    unfold maxLen at hcp2
    gi_wp2_with (refine ⟨trivial, ?_⟩; gi_at_call 75; refine (callsIn_wide.2 (clip_c A N.length cp _ hcp1 (by omega))).mono ?_; rintro e w' ⟨rfl, rfl⟩)
    refine ⟨by simp, .inl ⟨_, _, rfl, run_takeDeferred hK, ?_⟩⟩
    have hN := hNh.out
    subst hN
    exact ⟨_, results_tmp rfl _ _ _, A, cp, rfl, ownsRow_putObj hrow _ hK rfl, hB.trans (belowK_b (w := w) (Nat.le_refl _) W D _ _ (by simp at hD; omega) hK rfl rfl)⟩
  case stop =>
    rintro D c pre W _ _ h _
    exact h.elim
def invL (zs : List Int) : List Int := (zs.map fun x => -x).reverse
theorem negs_inv {zs : List Int} (hbd : ∀ x ∈ zs, -9223372036854775807 ≤ x ∧ x ≤ 9223372036854775807) : negs (upto (bk zs) zs.length) = invL zs := by
  apply List.ext_getElem
  · simp [negs, upto, invL]
  · intro i h1 h2
    have hi : i < zs.length := by simpa [negs, upto] using h1
    have hj : zs.length - 1 - i < zs.length := by omega
    have hb := hbd (zs[zs.length - 1 - i]) (List.getElem_mem hj)
    simp only [negs, upto, bk, invL, List.map_map, List.getElem_map, List.getElem_range, List.getElem_reverse, Function.comp]
    rw [List.getElem?_eq_getElem hj]
    simp only [Option.getD_some, List.length_map]
    exact neg_wrap hb
end Go.Proofs.Ytgjfpmjllpgadaa
