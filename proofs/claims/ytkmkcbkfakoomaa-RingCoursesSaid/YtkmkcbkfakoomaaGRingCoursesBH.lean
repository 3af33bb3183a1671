/- Facts and contracts that the claim uses. No condition of its own. -/
import Derived.Test.YtkmkcbkfakoomaaGRingCoursesBG
import Derived.Test.YtkmkcbkfakoomaaGRingCoursesBE
import Derived.Test.YtkmkcbkfakoomaaGRingCoursesAA
set_option linter.unusedVariables false
set_option linter.unusedSimpArgs false
namespace Go.Proofs.Ytkmkcbkfakoomaa
open Go.RowKit
set_option maxRecDepth 100000 in
set_option maxHeartbeats 1000000 in
theorem cycles_c (A : Option Addr) (cap : Nat) (xs : List Int) (w : World) (h : IsInts w A cap xs) (hr : InRange xs) (h9 : xs.length ≤ 9) :
    Calls Try.prog 46 #[.slice A xs.length cap] w fun e w' => ∃ v, e = .returned v ∧ OwnIntss w' w.heap.size 22 3 v (cyclesOf xs) ∧ Below w.heap.size w w' := by
  have h1 := h.len
  have h2 := h.cap_le
  have hmk := fun W => run_make_row' (P := Try.prog) 81 4 (.bool false) 1 Try.underlying81 info4 rfl .i64 .i64 xs.length (by omega) (by omega) W
  go_enter Try.func46, Try.ntmps46
  go_wp2
  go_loopw [3, 5, 6, 7, 13] (fun out _ _ _ i wr => ∃ k : Nat, k ≤ xs.length ∧ i = .int .i64 k ∧ OwnIntss wr w.heap.size 22 3 out (cycAt xs k).1 ∧ wr.rowIs w.heap.size 4 xs.length (fun j => .bool ((cycAt xs k).2 j)) ∧ Below w.heap.size w wr) (fun _ _ _ _ i _ => xs.length - (intOf i).toNat)
  case atStart => exact ⟨0, Nat.zero_le _, rfl, OwnIntss.nil _ _ _ _, World.rowIs_made _ _ _ _, (Below.refl _ _).alloc (Nat.le_refl _) _⟩
  case round =>
    obtain ⟨k, hk, rfl, hout, hrow, hb⟩ := hrel
    by_cases hlt : k < xs.length
    · obtain ⟨wo, rfl⟩ : ∃ wo : World, wo = wr := ⟨_, rfl⟩
      have hGo := hrow.lt
      go_wp2
      go_loopw [6, 7] (fun c x wi => ∃ (X : Nat) (D : Nat → Bool) (cs : List Int), x = .int .i64 X ∧ Wk xs X D cs (wk xs xs.length k (cycAt xs k).2 []) ∧ wi.ownsRow wo.heap.size 3 1 c cs.length (cs.map (Value.int .i64)) ∧ wi.rowIs w.heap.size 4 xs.length (fun j => .bool (D j)) ∧ wo.grownBy wi (some w.heap.size)) (fun c _ _ => xs.length - lenOf c)
      case atStart => exact ⟨k, _, [], rfl, Wk.start hr hlt _, World.ownsRow_nil _ _ _ _, hrow, World.grownBy.refl _ _⟩
      case round =>
        obtain ⟨X, D, cs, rfl, hwk, hown, hrow1, hg⟩ := hrel
        have hXl := hwk.hx
        have hcd := hrow1.cell hXl
        cases hD : D X
        · rw [hD] at hcd
          have hfz := hrow1.frozen X
          have hX9 : (X : Int) ≤ 9 := by omega
          obtain ⟨b, o, rfl, hbl, hc⟩ := h.row (by intro e; simp [e] at hlt)
          obtain ⟨Y, hY⟩ : ∃ Y : Nat, xs.getD X 0 = Y := ⟨(xs.getD X 0).toNat, by have := hr X hXl; omega⟩
          have hYl : Y < xs.length := by have := hr X hXl; omega
          have hcX := hc X hXl
          rw [hY] at hcX
          clear hc
          have hwsz := hg.size
          have hcs9 := hwk.len
          have hst := hwk.step hr hD
          have hdone := freeN_pos hD hXl
          rw [hY, Int.toNat_natCast] at hst
          have HY := Lib.hid hY
          clear hY
          have hown2 := (ownsRow_setCell_below hown (a := ⟨w.heap.size, X, none⟩) hGo (.bool true)).alloc (.cells #[.int .i64 X] 3)
          have hb2 : Below w.heap.size w ((wr.setCell ⟨w.heap.size, X, none⟩ (.bool true)).alloc (.cells #[.int .i64 X] 3)) :=
            ((hb.grown hg hb.size (fun j hj => by cases hj; exact Nat.le_refl _)).setCell (p := ⟨w.heap.size, X, none⟩) (Nat.le_refl _) _).alloc (by simp [World.setCell]; omega) _
          have hgr2 := grown_then_alloc (grown_then_store hg (p := ⟨w.heap.size, X, none⟩) (.inr rfl) (.bool true)) (.cells #[.int .i64 X] 3)
          have hrow2 := ((hrow1.set X (.bool true)).alloc (.cells #[.int .i64 X] 3)).congr (g := fun j => .bool (mark D X j)) (fun j _ => by simp only [mark]; split <;> rfl)
          go_wp2_with (first
            | ((with_reducible refine at_dst 32 ?_); refine wpList_append1 _ rfl _ _ 22 3 rfl el_int wo.heap.size _ cs.length (cs.map (Value.int .i64)) (by rfl) hown2 wr.heap.size 1 (by rfl) (.int .i64 X) (cell_new _ _ _ _ (by simp [World.setCell])) rfl (by omega) (by simp [World.setCell]; omega) ?_; intro v' w1 ho1 hg1 hb1 hat1 hnn1; have hcX1 : w1.cell? ⟨b, o + X, none⟩ = some (.int .i64 (Y : Int)) := ((hb1.cell (p := ⟨b, o + X, none⟩) (by show b < wo.heap.size; omega)).trans (hb2.cell (p := ⟨b, o + X, none⟩) hbl)).trans hcX))
          go_roundw
          case rel => exact ⟨Y, mark D X, cs ++ [(X : Int)], rfl, hst.1, by simpa using ho1, hrow2.of_block (hg1.block _ (by simp [World.setCell]; omega) (fun e => own_row_ne hown2 hrow2 (by decide) e.symm)), grown_then_below hgr2 hb1 (Nat.le_refl _)⟩
          case measure => rw [own_len ho1, own_len hown]; omega
        · rw [hD] at hcd
          have hR := Lib.hid (hwk.done hD)
          have hall := hwk.all
          have hcl := hwk.len
          have hsz := hg.size
          clear hwk
          obtain ⟨A', c', rfl, hI⟩ := ints_of_own hown (fun i hi => by have := hall i hi; unfold in64; omega)
          have hTy := BlkTy.of_own hown
          have hout2 := hout.kept hg (fun g hg' => by cases hg'; obtain ⟨cs', fr, hb'⟩ := row_ty hrow; exact ⟨cs', 4, fr, hb', by decide, by decide⟩)
          have hb2 : Below w.heap.size w wr := hb.grown hg hb.size (fun j hj => by cases hj; exact Nat.le_refl _)
          obtain ⟨vs, ho1, ho2⟩ := hout2
          have hyl : (cycAt xs k).1.length ≤ 9 := Nat.le_trans (cycAt_len xs k) (by omega)
          by_cases hcs : cs = []
          · subst hcs
            go_wp2
            go_roundw
            case rel => exact ⟨k + 1, by omega, by go_num, by rw [cycAt_succ_none hR.out rfl]; exact ⟨vs, ho1, ho2⟩, by rw [cycAt_succ_none hR.out rfl]; exact hrow1, hb2⟩
            case measure => simp [intOf]; omega
          · have hpos : 0 < cs.length := List.length_pos_iff.2 hcs
            have hI1 := hI.len
            have hI2 := hI.cap_le
            have ho3 := ho1.alloc (.cells #[.slice A' cs.length cs.length] 22)
            go_wp2_with (first
              | (go_at_call 35; refine (clip_c _ _ _ _ hI1 hI2).mono ?_; rintro e w' ⟨rfl, rfl⟩)
              | ((with_reducible refine at_dst 40 ?_); refine wpList_append1 _ rfl _ _ 26 22 rfl el_ints w.heap.size _ _ vs (by rfl) ho3 wr.heap.size 1 (by rfl) (.slice A' cs.length cs.length) (cell_new _ _ _ _ rfl) rfl (by omega) (by simp; omega) ?_; intro v' w1 ho4 hg1 hb1 hat1 hnn1))
            have hnew := OwnIntss.push ho3 (elems_alloc ho2 _) ((hI.recap (Nat.le_refl _) (by omega)).alloc _) (hTy.alloc _) (by decide) ho4 hg1
            go_roundw
            case rel => exact ⟨k + 1, by omega, by go_num, by rw [cycAt_succ_some hR.out hcs]; exact hnew, by rw [cycAt_succ_some hR.out hcs]; exact (hrow1.alloc _).of_block (hg1.block _ (by simp; omega) (fun e => own_row_ne ho3 (hrow1.alloc _) (by decide) e.symm)), (hb2.alloc (by omega) _).trans hb1⟩
            case measure => simp [intOf]; omega
    · go_wp2
      go_ret
      obtain rfl : k = xs.length := by omega
      exact ⟨_, rfl, hout, hb⟩
end Go.Proofs.Ytkmkcbkfakoomaa
