/- Facts and contracts that the claim uses. No condition of its own. -/
import Derived.Test.YtkmkcbkfakoomaaGRingRowsBH
import Derived.Test.YtkmkcbkfakoomaaGRingRowsAD
import Derived.Test.YtkmkcbkfakoomaaGRingRowsBJ
set_option linter.unusedVariables false
set_option linter.unusedSimpArgs false
namespace Go.Proofs.Ytkmkcbkfakoomaa
open Go.RowKit
set_option maxHeartbeats 1000000 in
theorem row_c (n : Nat) (w : World) (hn : n ≤ 1000000) :
    Calls Try.prog 11 #[.int .i64 n] w fun e w' => e = .returned (.slice (some ⟨w.heap.size, 0, none⟩) n n) ∧ w'.rowIs w.heap.size 3 n (fun i => .int .i64 ((idRow n).getD i 0)) ∧ Below w.heap.size w w' := by
  have hmk := fun W => run_make_row' (P := Try.prog) 22 3 (.int .i64 0) 8 Try.underlying22 info3 rfl .i64 .i64 n (by omega) (by omega) W
  go_enter Try.func11, Try.ntmps11
  go_wp2
  go_loopw [4, 9] (fun _ i wr => ∃ k : Nat, k ≤ n ∧ i = .int .i64 k ∧ wr.rowIs w.heap.size 3 n (fun j => if j < k then .int .i64 j else .int .i64 0) ∧ Below w.heap.size w wr) (fun _ i _ => n - (intOf i).toNat)
  case atStart => exact ⟨0, Nat.zero_le _, rfl, (World.rowIs_made _ _ _ _).congr (fun i _ => by simp), (Below.refl _ _).alloc (Nat.le_refl _) _⟩
  case round =>
    obtain ⟨k, hk, rfl, hr, hb⟩ := hrel
    by_cases hlt : k < n
    · have hck := hr.cell hlt
      have hfk := hr.frozen k
      simp only [Nat.lt_irrefl, if_false] at hck
      go_wp2
      go_roundw
      case rel => exact ⟨k + 1, by omega, by go_num, (hr.set k _).congr (fun i _ => by by_cases e : i = k <;> by_cases e2 : i < k <;> simp [e, e2] <;> omega), hb.setCell (p := ⟨w.heap.size, k, none⟩) (Nat.le_refl _) _⟩
      case measure => simp [intOf]; omega
    · go_wp2
      go_ret
      obtain rfl : k = n := by omega
      exact ⟨rfl, hr.congr (fun i hi => by rw [if_pos hi, idRow_get hi]), hb⟩
end Go.Proofs.Ytkmkcbkfakoomaa

/- Facts and contracts that the claim uses. No condition of its own. -/
set_option linter.unusedVariables false
set_option linter.unusedSimpArgs false
namespace Go.Proofs.Ytkmkcbkfakoomaa
open Go.RowKit
theorem erase_idxOf : ∀ (l : List Int) (x : Int), l.eraseIdx (l.idxOf x) = l.erase x
  | [], x => by simp
  | y :: l, x => by
    by_cases e : y = x
    · subst e; simp
    · rw [List.idxOf_cons, List.erase_cons_tail (by simpa using e), show (y == x) = false by simpa using e]
      simp [erase_idxOf l x]
set_option maxRecDepth 100000 in
set_option maxHeartbeats 1000000 in
theorem number_c (A : Option Addr) (cap : Nat) (xs : List Int) (w : World) (h : IsInts w A cap xs) (hr : InRange xs) (hd : xs.Nodup) (h9 : xs.length ≤ 9) :
    Calls Try.prog 13 #[.slice A xs.length cap] w fun e w' => e = .returned (.int .i64 (number xs)) ∧ Below w.heap.size w w' := by
  have h1 := h.len
  have h2 := h.cap_le
  have hperm := perm_idRow hr hd
  have HP := Lib.hid hperm
  clear hperm hr hd
  go_enter Try.func13, Try.ntmps13
  go_wp2_with (go_at_call 11; refine (row_c xs.length _ (by omega)).mono ?_; rintro e w1 ⟨rfl, hrow, hb1⟩)
  have hm0 := Mine.of_row (xs := idRow xs.length) (B := w.heap.size) hrow (idRow_len _).symm (Nat.le_refl _) (by omega) (fun i hi => by rw [idRow_len] at hi; rw [idRow_get hi]; unfold in64; omega)
  go_loopw [3, 4, 6, 7, 13] (fun n rest _ _ i wr => ∃ (k N : Nat) (l : List Int), k ≤ xs.length ∧ i = .int .i64 k ∧ n = .int .i64 N ∧ rest = .slice (some ⟨w.heap.size, 0, none⟩) l.length xs.length ∧ Mine wr w.heap.size (some ⟨w.heap.size, 0, none⟩) xs.length l ∧ Hid ((xs.drop k).Perm l) ∧ Hid (numGo (xs.drop k) l N = number xs) ∧ N < 10 ^ k ∧ Below w.heap.size w wr) (fun _ _ _ _ i _ => xs.length - (intOf i).toNat)
  case atStart => exact ⟨0, 0, idRow xs.length, Nat.zero_le _, rfl, rfl, by rw [idRow_len], hm0, HP.out, rfl, by decide, hb1⟩
  case round =>
    obtain ⟨k, N, l, hk, rfl, rfl, rfl, hm, hpl, hnum, hN, hb⟩ := hrel
    by_cases hlt : k < xs.length
    · obtain ⟨b, o, rfl, hbl, hc⟩ := h.row (by intro e; simp [e] at hlt)
      have hck := (hb.cell (p := ⟨b, o + k, none⟩) hbl).trans (hc k hlt)
      rw [getD_lt 0 hlt] at hck
      clear hc
      have hdr := List.drop_eq_getElem_cons hlt
      have hll : l.length = xs.length - k := by rw [← hpl.out.length_eq]; simp
      generalize hx : xs[k] = x at *
      have hxl : x ∈ l := hpl.out.mem_iff.1 (by rw [hdr]; simp)
      have hil := List.idxOf_lt_length_of_mem hxl
      have hp1 : (0 : Int) ≤ (N : Int) * (l.length : Int) := Int.mul_nonneg (by omega) (by omega)
      have hN9 : 10 ^ k ≤ 10 ^ 8 := Nat.pow_le_pow_right (by omega) (by omega)
      have hN10 : 10 ^ (k + 1) = 10 ^ k * 10 := Nat.pow_succ ..
      have hmul : N * l.length ≤ (10 ^ k - 1) * 9 := Nat.mul_le_mul (by omega) (by omega)
      have hp2 : (N : Int) * (l.length : Int) ≤ 10000000000 := by rw [← Int.natCast_mul]; omega
      have HN : Hid (N * l.length + l.idxOf x < 10 ^ (k + 1)) := by unfold Hid; omega
      have HC : Hid ((N : Int) * (l.length : Int) + ((l.idxOf x : Nat) : Int) = ((N * l.length + l.idxOf x : Nat) : Int)) := by unfold Hid; rw [Int.natCast_add, Int.natCast_mul]
      have HE : Hid (l.eraseIdx (l.idxOf x) = l.erase x) := erase_idxOf l x
      have HL : Hid ((l.erase x).length = l.length - 1) := List.length_erase_of_mem hxl
      have HX : Hid (numGo (xs.drop (k + 1)) (l.erase x) (N * l.length + l.idxOf x) = number xs) := by
        have := hnum.out; rw [hdr] at this; exact this
      have HQ : Hid ((xs.drop (k + 1)).Perm (l.erase x)) := by
        have := hpl.out.erase x; rw [hdr] at this; have h' : (xs.drop (k + 1)).Perm (l.erase x) := by simpa using this
        exact h'
      have hl9 : l.length ≤ 9 := by omega
      clear hdr hx hN9 hN10 hmul hll
      go_wp2_with (first
        | (go_at_call 30; refine (index_c _ _ _ _ _ hm.ints hxl).mono ?_; rintro e w' ⟨rfl, rfl⟩)
        | (go_at_call 31; refine (delete_c _ _ _ _ l (l.idxOf x) _ hm hil _ _ rfl (by omega)).mono ?_; rw [HE.out]; rintro e w2 ⟨rfl, hm2, hg2⟩))
      go_roundw
      case rel => exact ⟨k + 1, N * l.length + l.idxOf x, l.erase x, by omega, by go_num, by rw [HC.out], by rw [HL.out], hm2, HQ, HX, HN.out, hb.grown hg2 hb.size (fun j hj => by cases hj; exact Nat.le_refl _)⟩
      case measure => simp [intOf]; omega
    · go_wp2
      go_ret
      obtain rfl : k = xs.length := by omega
      have := hnum.out
      rw [List.drop_length] at this
      exact ⟨ret_int (by rw [← this]; rfl), hb⟩
end Go.Proofs.Ytkmkcbkfakoomaa
