/- Contracts of functions of this seat, and plain facts for them: used by the claims. No condition of its own. -/
import Derived.Test.YtmfghdjnojbalaaRowOf
import Derived.Test.YtmfghdjnojbalaaSlicesC
set_option linter.unusedVariables false
namespace Go.Proofs.Ytmfghdjnojbalaa
open Go.RowKit

theorem fac9 {n : Nat} (h : n ≤ 9) : fac n ≤ 362880 := fac_le (m := 9) h
theorem ret_two {a a' b b' : Value} (h1 : a = a') (h2 : b = b') : Ending.returned (.tuple #[a, b]) = .returned (.tuple #[a', b']) := by rw [h1, h2]

set_option maxHeartbeats 400000 in
theorem unrank_arg (n r : Int) (w : World) (hn : n < 0 ∨ 9 < n) :
    Calls Try.prog 14 #[.int .i64 n, .int .i64 r] w fun e w' => e = .returned (.tuple #[.slice none 0 0, .int .i64 1]) ∧ w = w' := by
  rcases hn with hn | hn
  · go_enter Try.func14, Try.ntmps14
    go_wp2
    go_ret2
    exact ⟨rfl, rfl⟩
  · have h0 : ¬ n < 0 := by omega
    go_enter Try.func14, Try.ntmps14
    go_wp2
    go_ret2
    exact ⟨rfl, rfl⟩

/-- What Unrank comes to for a degree n from 0 to 9. -/
def UnrankPost (n : Nat) (r : Int) (w : World) (e : Ending) (w' : World) : Prop :=
  ((r < 0 ∨ (fac n : Int) ≤ r → e = .returned (.tuple #[.slice none 0 0, .int .i64 4])) ∧
      (∀ R : Nat, r = R → R < fac n → ∃ A, e = .returned (.tuple #[.slice A n n, .int .i64 0]) ∧ IsInts w' A n (ur n (idRow n) R)) ∧ Below w.heap.size w w')
theorem unr_miss {n : Nat} {r : Int} {w : World} (h : r < 0 ∨ (fac n : Int) ≤ r) : UnrankPost n r w (.returned (.tuple #[.slice none 0 0, .int .i64 4])) w :=
  ⟨fun _ => rfl, fun R h3 h4 => absurd h (by omega), Below.refl _ _⟩
theorem unr_ok {n R c : Nat} {w w' : World} {A : Option Addr} {outs : List Int} (h : R < fac n) (ho : outs = ur n (idRow n) R) (hI : IsInts w' A c outs) (hb : Below w.heap.size w w') :
    UnrankPost n R w (.returned (.tuple #[.slice A outs.length outs.length, .int .i64 0])) w' := by
  have hl : outs.length = n := by rw [ho, ur_len]
  have h1 := hI.len
  have h2 := hI.cap_le
  refine ⟨fun h' => absurd h' (by omega), fun R' h1' h2' => ?_, hb⟩
  obtain rfl : R = R' := by omega
  rw [hl, ← ho]
  exact ⟨A, rfl, hI.recap (by omega) (by omega)⟩

set_option maxRecDepth 100000 in
set_option maxHeartbeats 2000000 in
theorem unrank_c (n : Nat) (r : Int) (w : World) (hn : n ≤ 9) :
    Calls Try.prog 14 #[.int .i64 n, .int .i64 r] w (UnrankPost n r w) := by
  have HF : Hid (∀ m : Nat, m ≤ 9 → fac m ≤ 362880) := fun m h => fac9 h
  go_enter Try.func14, Try.ntmps14
  go_wp2
  go_loop [6, 7, 18] (fun c _ i => ∃ k : Nat, k ≤ n ∧ i = .int .i64 k ∧ c = .int .i64 (fac k)) (fun _ _ i => n - (intOf i).toNat)
  case atStart => exact ⟨0, Nat.zero_le _, rfl, rfl⟩
  case round =>
    obtain ⟨k, hk, rfl, rfl⟩ := hrel
    by_cases hlt : k < n
    · have hb := HF.out k (by omega)
      have hs : Hid (fac (k + 1) = (k + 1) * fac k) := rfl
      have hb2 := HF.out (k + 1) (by omega)
      have hp0 : (0 : Int) ≤ (fac k : Int) * ((k : Int) + 1) := Int.mul_nonneg (by omega) (by omega)
      have hp1 : (fac k : Int) * ((k : Int) + 1) ≤ 362880 * 10 := Int.mul_le_mul (by omega) (by omega) (by omega) (by omega)
      go_wp2
      go_round
      case rel => exact ⟨k + 1, by omega, by go_num, by rw [hs.out, Int.natCast_mul, Int.mul_comm]; rfl⟩
      case measure => simp [intOf]; omega
    · obtain rfl : k = n := by omega
      have hb := HF.out k (by omega)
      by_cases hr : r < 0 ∨ (fac k : Int) ≤ r
      · have HR := Lib.hid hr
        clear hr
        by_cases hr0 : r < 0
        · go_wp2
          go_ret2
          exact unr_miss HR.out
        · have hr1 : (fac k : Int) ≤ r := by have := HR.out; omega
          go_wp2
          go_ret2
          exact unr_miss HR.out
      · obtain ⟨R, rfl⟩ : ∃ R : Nat, r = R := ⟨r.toNat, by omega⟩
        have hr1 : R < fac k := by omega
        have hrr : ¬ ((R : Int) < 0 ∨ (fac k : Int) ≤ R) := hr
        clear hr
        go_wp2_with (go_at_call 46; refine (identity_c k _ (by omega)).mono ?_; rintro e w1 ⟨rfl, hrow, hb1⟩)
        have hG := hrow.lt
        have hm0 := Mine.of_row (xs := idRow k) (B := w.heap.size) hrow (idRow_len _).symm (Nat.le_refl _) (by omega) (fun i hi => by rw [idRow_len] at hi; rw [idRow_get hi]; unfold in64; omega)
        go_loopw [1, 6, 8, 9, 10] (fun rr c left out _ wr => ∃ (m r : Nat) (l outs : List Int), m ≤ k ∧ Hid (l.length = m) ∧ c = .int .i64 (fac m) ∧ rr = .int .i64 r ∧ r < fac m ∧ left = .slice (some ⟨w.heap.size, 0, none⟩) l.length k ∧ Mine wr w.heap.size (some ⟨w.heap.size, 0, none⟩) k l ∧
            wr.ownsRow w1.heap.size 3 1 out outs.length (outs.map (Value.int .i64)) ∧ Hid (outs ++ ur m l r = ur k (idRow k) R) ∧ outs.length ≤ k ∧ w1.heap.size ≤ wr.heap.size ∧ Below w.heap.size w wr) (fun _ _ l _ _ _ => lenOf l)
        case atStart => exact ⟨k, R, idRow k, [], Nat.le_refl _, idRow_len k, rfl, rfl, hr1, by rw [idRow_len], hm0, World.ownsRow_nil _ _ _ _, rfl, by simp, Nat.le_refl _, hb1⟩
        case round =>
          obtain ⟨m, r, l, outs, hmk, hlm, rfl, rfl, hrm, rfl, hm, hown, hur, hol, hws, hb⟩ := hrel
          cases m with
          | zero =>
            have hl0 : l = [] := List.eq_nil_of_length_eq_zero hlm.out
            subst hl0
            have hR : outs = ur k (idRow k) R := by have := hur.out; simpa [ur] using this
            have hok : outs.length = k := by rw [hR, ur_len]
            obtain ⟨A, c, rfl, hI⟩ := ints_of_own hown (fun i hi => by
              have hp : outs.Perm (idRow k) := by rw [hR]; exact ur_perm k _ R (idRow_len k) hr1
              have := mem_idRow.1 (hp.mem_iff.1 (List.getElem_mem hi))
              rw [getD_lt 0 hi]; unfold in64; omega)
            have hI1 := hI.len
            have hI2 := hI.cap_le
            have HR := Lib.hid hR
            clear hR hok
            go_wp2_with (go_at_call 48; refine (clip_c _ _ _ _ hI1 hI2).mono ?_; rintro e w' ⟨rfl, rfl⟩)
            go_ret2
            exact unr_ok hr1 HR.out hI hb
          | succ m =>
            have hlen : l.length = m + 1 := hlm.out
            have hf0 := fac_pos m
            have hfm := HF.out m (by omega)
            have hfM := HF.out (m + 1) (by omega)
            have hK := div_fac_lt hrm
            have hKd : (r : Int) / (fac m : Int) = ((r / fac m : Nat) : Int) := by rw [Int.natCast_ediv]
            have hRd : (r : Int) % (fac m : Int) = ((r % fac m : Nat) : Int) := by rw [Int.natCast_emod]
            have hRl := Nat.mod_lt r hf0
            have hQ : (fac (m + 1) : Int) / (l.length : Int) = (fac m : Int) := by
              rw [hlen]
              show (((m + 1) * fac m : Nat) : Int) / ((m + 1 : Nat) : Int) = _
              rw [← Int.natCast_ediv, Nat.mul_div_cancel_left _ (by omega)]
            have HU : Hid ((outs ++ [l.getD (r / fac m) 0]) ++ ur m (l.eraseIdx (r / fac m)) (r % fac m) = ur k (idRow k) R) := by
              have := hur.out; simp only [ur] at this; unfold Hid; rw [← this]; simp
            generalize r / fac m = K at *
            generalize r % fac m = R' at *
            have HF1 : Hid (fac m = fac m) := rfl
            generalize hF : fac m = F at *
            have HFm := Lib.hid hF
            clear hF
            generalize fac (m + 1) = F1 at *
            have hKl : K < l.length := by omega
            obtain ⟨b', o', hA, _, hc⟩ := hm.ints.row (by rintro rfl; simp at hlen)
            cases hA
            have hcK := hc K hKl
            rw [Nat.zero_add] at hcK
            clear hc
            have hl9 : l.length ≤ 9 := by omega
            have hlp : 0 < l.length := by omega
            have HL2 : Hid ((l.eraseIdx K).length = l.length - 1) := List.length_eraseIdx_of_lt hKl
            have HL3 : Hid ((l.eraseIdx K).length = m) := by unfold Hid; rw [List.length_eraseIdx_of_lt hKl]; omega
            clear hlen
            have hol2 : outs.length + 1 ≤ k := by
              have h1 := congrArg List.length HU.out
              simp only [List.length_append, ur_len, List.length_cons, List.length_nil] at h1
              omega
            have hown2 := hown.alloc (.cells #[.int .i64 l[K]] 3)
            have hm2 := hm.alloc (.cells #[.int .i64 l[K]] 3)
            have hlow := hown.lt
            rw [getD_lt 0 hKl] at hcK HU
            go_wp2_with (first
              | ((with_reducible refine at_dst 54 ?_); refine wpList_append1 _ rfl _ _ 22 3 rfl el_int w1.heap.size _ outs.length (outs.map (Value.int .i64)) (by rfl) hown2 wr.heap.size 1 (by rfl) (.int .i64 l[K]) (cell_new _ _ _ _ rfl) rfl (by omega) (by simp; omega) ?_; intro v' w2 ho2 hg2 hb2 hat2 hnn2; have hm3 := hm2.kept hg2 (fun b o e => by cases e; intro e; have := (hlow _ e).1; omega))
              | (go_at_call 47; refine (delete_c _ _ _ _ l K _ hm3 hKl _ _ rfl rfl).mono ?_; rintro e w3 ⟨rfl, hm4, hg3⟩))
            go_roundw
            case rel => exact ⟨m, R', l.eraseIdx K, outs ++ [l[K]], by omega, HL3, by rw [HFm.out], rfl, by rw [HFm.out]; exact hRl, by rw [HL2.out], hm4, by simpa using ho2.kept hg3 (.inr (fun e => by have := (ho2.lt _ e).1; omega)), HU, by simpa using hol2, by have := hg3.size; have := hg2.size; simp at this; omega, (((hb.alloc hb.size _).trans (hb2.mono (by omega))).grown hg3 (by have := hg2.size; simp at this; have := hb.size; omega) (fun j hj => by cases hj; exact Nat.le_refl _))⟩
            case measure => simp only [lenOf]; omega
end Go.Proofs.Ytmfghdjnojbalaa
