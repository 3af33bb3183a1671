/- Contracts of functions of this seat, and plain facts for them: used by the claims. No condition of its own. -/
import Derived.Test.YtmfghdjnojbalaaCheck
import Derived.Test.YtmfghdjnojbalaaMaps
set_option linter.unusedVariables false
set_option linter.unusedSimpArgs false
namespace Go.Proofs.Ytmfghdjnojbalaa
open Go.RowKit

theorem zero_bool (w : World) : (zeroValue 4).run Try.prog w = .ok (.bool false) w := by kernel_rfl

def seenOf (xs : List Int) (k : Nat) (x : Int) : Bool := (xs.take k).contains x

theorem seenOf_mem {xs : List Int} {k : Nat} {x : Int} : seenOf xs k x = true ↔ x ∈ xs.take k := by simp [seenOf]
theorem seenOf_not {xs : List Int} {k : Nat} {x : Int} : seenOf xs k x = false ↔ ¬ x ∈ xs.take k := by simp [seenOf]
theorem seenOf_succ {xs : List Int} {k : Nat} (hk : k < xs.length) (x : Int) : seenOf xs (k + 1) x = (x == xs[k] || seenOf xs k x) := by
  unfold seenOf
  rw [List.take_succ_eq_append_getElem hk, List.contains_eq_any_beq, List.any_append, List.contains_eq_any_beq]
  simp [Bool.or_comm]

set_option maxHeartbeats 400000 in
theorem fault_c (A : Option Addr) (cap : Nat) (xs : List Int) (w : World) (h : IsInts w A cap xs) :
    Calls Try.prog 12 #[.slice A xs.length cap] w fun e w' => e = .returned (.int .i64 (permFault xs)) ∧ Below w.heap.size w w' := by
  have h1 := h.len
  have h2 := h.cap_le
  have hmm := @run_makeMap Try.prog
  go_enter Try.func12, Try.ntmps12
  go_wp2
  · go_ret
    exact ⟨ret_int (by rw [permFault, if_pos (by omega)]), Below.refl _ _⟩
  · go_loopw [5, 12] (fun _ i wr => ∃ k : Nat, k ≤ xs.length ∧ i = .int .i64 k ∧ (∀ j, j < k → pfAt xs j = 0) ∧ ISet Try.prog 3 wr w.heap.size k (seenOf xs k) ∧ Below w.heap.size w wr) (fun _ i _ => xs.length - (intOf i).toNat)
    case atStart => exact ⟨0, Nat.zero_le _, rfl, fun j hj => absurd hj (by omega), (IMap.made w _ _).congr (fun x => by simp [seenOf]), (Below.refl _ _).alloc (Nat.le_refl _) _⟩
    case round =>
      obtain ⟨k, hk, rfl, hz, hs, hb⟩ := hrel
      have HZ := Lib.hid hz
      clear hz
      by_cases hlt : k < xs.length
      · obtain ⟨b, o, rfl, hbl, hc⟩ := h.row (by intro e; simp [e] at hlt)
        have hck := (hb.cell (p := ⟨b, o + k, none⟩) hbl).trans (hc k hlt)
        clear hc
        have hbd := h.bd k hlt
        rw [getD_lt 0 hlt] at hbd hck
        unfold in64 at hbd
        obtain ⟨hb1, hb2⟩ := hbd
        have hwf := wf_of_in64 hb1 hb2
        go_wp2_with (first
          | (at_lookup; refine wpList_lookup_set _ rfl _ _ 67 rfl 3 4 Try.underlying3 Try.underlying67 zero_bool w.heap.size k (seenOf xs k) rfl hs _ rfl hwf ?_)
          | (at_mapUpdate; refine wpList_update_set _ rfl _ _ _ 67 rfl 3 4 Try.underlying3 Try.underlying67 w.heap.size k (seenOf xs k) rfl hs (by unfold maxLen; omega) _ rfl hwf rfl ?_; intro w1 hs1 hg1))
        · go_ret
          exact ⟨ret_int (permFault_at (by omega) hlt HZ.out (pfAt_one hlt ‹_›) (by omega)).symm, hb⟩
        · go_ret
          exact ⟨ret_int (permFault_at (by omega) hlt HZ.out (pfAt_five hlt ‹_› (seenOf_mem.1 ‹_›)) (by omega)).symm, hb⟩
        · have HS := seenOf_succ hlt
          have h0 := pfAt_zero hlt ‹0 ≤ xs[k] ∧ _› (seenOf_not.1 ‹_›)
          go_roundw
          case rel => exact ⟨k + 1, by omega, by go_num, pfAt_more HZ.out h0, hs1.congr (fun x => by rw [HS]), hb.grown hg1 hb.size (fun j hj => by injection hj with hj; omega)⟩
          case measure => simp [intOf]; omega
        · go_ret
          exact ⟨ret_int (permFault_at (by omega) hlt HZ.out (pfAt_one hlt (.inl ‹_›)) (by omega)).symm, hb⟩
      · go_wp2
        go_ret
        obtain rfl : k = xs.length := by omega
        exact ⟨ret_int (permFault_ok (by omega) HZ.out).symm, hb⟩
end Go.Proofs.Ytmfghdjnojbalaa
