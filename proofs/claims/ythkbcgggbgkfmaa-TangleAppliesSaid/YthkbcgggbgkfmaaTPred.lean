/- Contracts of functions of this seat, and plain facts for them: used by the claims. No condition of its own. -/
import Derived.Test.YthkbcgggbgkfmaaTOps
set_option linter.unusedVariables false
namespace Go.Proofs.Ythkbcgggbgkfmaa
open Go.RowKit

def big9 (a : Int) : Bool := decide (a < -9 ∨ 9 < a)
/-- What IndexFunc gives back: an index from 0 on just where some element is big. -/
def IdxPost (xs : List Int) (w : World) (e : Ending) (w' : World) : Prop := ∃ r : Int, e = .returned (.int .i64 r) ∧ -1 ≤ r ∧ r ≤ 9223372036854775807 ∧ (0 ≤ r ↔ xs.any big9 = true) ∧ w = w'
theorem idx_hit {xs : List Int} {w : World} {k : Nat} (hk : k < xs.length) (h9 : k ≤ 9223372036854775807) (h : big9 xs[k] = true) : IdxPost xs w (.returned (.int .i64 (k : Int))) w :=
  ⟨k, rfl, by omega, by omega, ⟨fun _ => List.any_eq_true.2 ⟨_, List.getElem_mem hk, h⟩, fun _ => by omega⟩, rfl⟩
theorem idx_miss {xs : List Int} {w : World} (h : ∀ j (hj : j < xs.length), big9 xs[j] = false) : IdxPost xs w (.returned (.int .i64 (-1))) w :=
  ⟨-1, rfl, by omega, by omega, ⟨fun h' => absurd h' (by omega), fun h' => by
    obtain ⟨a, ha, hb⟩ := List.any_eq_true.1 h'
    obtain ⟨j, hj, rfl⟩ := List.mem_iff_getElem.1 ha
    rw [h j hj] at hb; cases hb⟩, rfl⟩

set_option maxHeartbeats 400000 in
theorem pred_a (a : Int) (w : World) (b : Bool) (hb : b = big9 a) : Calls Try.prog 23 #[.int .i64 a] w fun e w' => e = .returned (.bool b) ∧ w = w' := by
  unfold big9 at hb
  by_cases h1 : a < -9
  · rw [decide_eq_true (by omega)] at hb
    subst hb
    go_enter Try.func23, Try.ntmps23
    go_wp2
    go_ret
    exact ⟨rfl, rfl⟩
  · by_cases h2 : 9 < a
    · rw [decide_eq_true (by omega)] at hb
      subst hb
      go_enter Try.func23, Try.ntmps23
      go_wp2
      go_ret
      exact ⟨rfl, rfl⟩
    · rw [decide_eq_false (by omega)] at hb
      subst hb
      go_enter Try.func23, Try.ntmps23
      go_wp2
      go_ret
      exact ⟨rfl, rfl⟩

set_option maxHeartbeats 1000000 in
theorem indexFunc_a (A : Option Addr) (cap : Nat) (xs : List Int) (w : World) (h : IsInts w A cap xs) :
    Calls Try.prog 33 #[.slice A xs.length cap, .func (.func 23) #[] #[]] w (IdxPost xs w) := by
  have h1 := h.len
  have h2 := h.cap_le
  go_enter Try.func33, Try.ntmps33
  go_wp2
  go_loop [5, 8] (fun _ i => ∃ k : Nat, k ≤ xs.length ∧ i = .int .i64 k ∧ Hid (∀ j (hj : j < xs.length), j < k → big9 xs[j] = false)) (fun _ i => xs.length - (intOf i).toNat)
  case atStart => exact ⟨0, Nat.zero_le _, rfl, fun j _ hj => absurd hj (by omega)⟩
  case round =>
    obtain ⟨k, hk, rfl, hz⟩ := hrel
    by_cases hlt : k < xs.length
    · obtain ⟨b, o, rfl, hbl, hc⟩ := h.row (by intro e; simp [e] at hlt)
      have hck := hc k hlt
      rw [getD_lt 0 hlt] at hck
      clear hc
      cases hx : big9 xs[k]
      · have HX := Lib.hid hx
        clear hx
        go_wp2_with (go_at_call 23; refine (pred_a _ _ false HX.out.symm).mono ?_; rintro e w' ⟨rfl, rfl⟩)
        go_round
        case rel => exact ⟨k + 1, by omega, by go_num, fun j hj hjk => by
          by_cases e : j = k
          · subst e; exact HX.out
          · exact hz.out j hj (by omega)⟩
        case measure => simp [intOf]; omega
      · have HX := Lib.hid hx
        clear hx
        go_wp2_with (go_at_call 23; refine (pred_a _ _ true HX.out.symm).mono ?_; rintro e w' ⟨rfl, rfl⟩)
        go_ret
        exact idx_hit hlt (by omega) HX.out
    · go_wp2
      go_ret
      exact idx_miss fun j hj => hz.out j hj (by omega)

set_option maxHeartbeats 1000000 in
theorem containsFunc_a (A : Option Addr) (cap : Nat) (xs : List Int) (w : World) (h : IsInts w A cap xs) (b : Bool) (hb : b = xs.any big9) :
    Calls Try.prog 12 #[.slice A xs.length cap, .func (.func 23) #[] #[]] w fun e w' => e = .returned (.bool b) ∧ w = w' := by
  have HB := Lib.hid hb
  clear hb
  go_enter Try.func12, Try.ntmps12
  go_wp2_with (go_at_call 33; refine (indexFunc_a _ _ _ _ h).mono ?_; rintro e w' ⟨r, rfl, hr1, hr2, hr, rfl⟩; have HR := Lib.hid hr; clear hr)
  go_ret
  refine ⟨ret_bool ?_, rfl⟩
  rw [HB.out]
  have := HR.out
  by_cases h0 : 0 ≤ r
  · rw [this.1 h0]; simpa using h0
  · have hf : xs.any big9 = false := by
      cases hh : xs.any big9
      · rfl
      · exact absurd (this.2 hh) h0
    rw [hf]; simpa using h0

set_option maxHeartbeats 400000 in
theorem pred_b (a : Int) (w : World) (b : Bool) (hb : b = big9 a) : Calls Try.prog 13 #[.int .i64 a] w fun e w' => e = .returned (.bool b) ∧ w = w' := by
  unfold big9 at hb
  by_cases h1 : 9 < a
  · rw [decide_eq_true (by omega)] at hb
    subst hb
    go_enter Try.func13, Try.ntmps13
    go_wp2
    go_ret
    exact ⟨rfl, rfl⟩
  · by_cases h2 : a < -9
    · rw [decide_eq_true (by omega)] at hb
      subst hb
      go_enter Try.func13, Try.ntmps13
      go_wp2
      go_ret
      exact ⟨rfl, rfl⟩
    · rw [decide_eq_false (by omega)] at hb
      subst hb
      go_enter Try.func13, Try.ntmps13
      go_wp2
      go_ret
      exact ⟨rfl, rfl⟩

set_option maxHeartbeats 1000000 in
theorem indexFunc_b (A : Option Addr) (cap : Nat) (xs : List Int) (w : World) (h : IsInts w A cap xs) :
    Calls Try.prog 33 #[.slice A xs.length cap, .func (.func 13) #[] #[]] w (IdxPost xs w) := by
  have h1 := h.len
  have h2 := h.cap_le
  go_enter Try.func33, Try.ntmps33
  go_wp2
  go_loop [5, 8] (fun _ i => ∃ k : Nat, k ≤ xs.length ∧ i = .int .i64 k ∧ Hid (∀ j (hj : j < xs.length), j < k → big9 xs[j] = false)) (fun _ i => xs.length - (intOf i).toNat)
  case atStart => exact ⟨0, Nat.zero_le _, rfl, fun j _ hj => absurd hj (by omega)⟩
  case round =>
    obtain ⟨k, hk, rfl, hz⟩ := hrel
    by_cases hlt : k < xs.length
    · obtain ⟨b, o, rfl, hbl, hc⟩ := h.row (by intro e; simp [e] at hlt)
      have hck := hc k hlt
      rw [getD_lt 0 hlt] at hck
      clear hc
      cases hx : big9 xs[k]
      · have HX := Lib.hid hx
        clear hx
        go_wp2_with (go_at_call 13; refine (pred_b _ _ false HX.out.symm).mono ?_; rintro e w' ⟨rfl, rfl⟩)
        go_round
        case rel => exact ⟨k + 1, by omega, by go_num, fun j hj hjk => by
          by_cases e : j = k
          · subst e; exact HX.out
          · exact hz.out j hj (by omega)⟩
        case measure => simp [intOf]; omega
      · have HX := Lib.hid hx
        clear hx
        go_wp2_with (go_at_call 13; refine (pred_b _ _ true HX.out.symm).mono ?_; rintro e w' ⟨rfl, rfl⟩)
        go_ret
        exact idx_hit hlt (by omega) HX.out
    · go_wp2
      go_ret
      exact idx_miss fun j hj => hz.out j hj (by omega)

set_option maxHeartbeats 1000000 in
theorem containsFunc_b (A : Option Addr) (cap : Nat) (xs : List Int) (w : World) (h : IsInts w A cap xs) (b : Bool) (hb : b = xs.any big9) :
    Calls Try.prog 12 #[.slice A xs.length cap, .func (.func 13) #[] #[]] w fun e w' => e = .returned (.bool b) ∧ w = w' := by
  have HB := Lib.hid hb
  clear hb
  go_enter Try.func12, Try.ntmps12
  go_wp2_with (go_at_call 33; refine (indexFunc_b _ _ _ _ h).mono ?_; rintro e w' ⟨r, rfl, hr1, hr2, hr, rfl⟩; have HR := Lib.hid hr; clear hr)
  go_ret
  refine ⟨ret_bool ?_, rfl⟩
  rw [HB.out]
  have := HR.out
  by_cases h0 : 0 ≤ r
  · rw [this.1 h0]; simpa using h0
  · have hf : xs.any big9 = false := by
      cases hh : xs.any big9
      · rfl
      · exact absurd (this.2 hh) h0
    rw [hf]; simpa using h0
end Go.Proofs.Ythkbcgggbgkfmaa
