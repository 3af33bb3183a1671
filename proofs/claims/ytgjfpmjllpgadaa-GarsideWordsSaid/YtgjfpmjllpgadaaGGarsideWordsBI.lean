/-
  Ranks of permutations: the program's way and the reference's. Plain facts: nothing of the program is here.
-/
import Derived.Test.YtgjfpmjllpgadaaGGarsideWordsAA
import Derived.Test.YtgjfpmjllpgadaaGGarsideWordsBG
import Derived.Test.YtgjfpmjllpgadaaGGarsideWordsBD
import Derived.Test.YtgjfpmjllpgadaaGGarsideWordsBH
set_option linter.unusedVariables false
set_option linter.unusedSimpArgs false
namespace Go.Proofs.Ytgjfpmjllpgadaa

def idRow (n : Nat) : List Int := (List.range n).map (fun i : Nat => (i : Int))
theorem idRow_len (n : Nat) : (idRow n).length = n := by simp [idRow]
theorem idRow_get {n i : Nat} (h : i < n) : (idRow n).getD i 0 = i := by
  rw [getD_lt 0 (by rw [idRow_len]; exact h)]; simp [idRow]

/-- The reference's loop: what is left, and the number so far. -/
def numGo : List Int → List Int → Nat → Nat
  | [], _, n => n
  | x :: xs, rest, n => numGo xs (rest.erase x) (n * rest.length + rest.idxOf x)
def number (xs : List Int) : Nat := numGo xs (idRow xs.length) 0

theorem perm_of_within : ∀ (l m : List Int), l.Nodup → (∀ x ∈ l, x ∈ m) → m.length ≤ l.length → l.Perm m
  | [], m, _, _, hl => by
    have : m = [] := List.eq_nil_of_length_eq_zero (by simpa using hl)
    subst this; exact List.Perm.refl _
  | x :: l, m, hd, hm, hl => by
    have hx := hm x (by simp)
    have hp := List.perm_cons_erase hx
    obtain ⟨hd1, hd2⟩ := List.nodup_cons.1 hd
    refine (List.Perm.cons x (perm_of_within l (m.erase x) hd2 (fun y hy => ?_) ?_)).trans hp.symm
    · refine (List.mem_erase_of_ne ?_).2 (hm y (by simp [hy]))
      rintro rfl; exact hd1 hy
    · rw [List.length_erase_of_mem hx]; simp at hl; omega
theorem mem_idRow {n : Nat} {x : Int} : x ∈ idRow n ↔ 0 ≤ x ∧ x < n := by
  simp only [idRow, List.mem_map, List.mem_range]
  constructor
  · rintro ⟨a, ha, rfl⟩; omega
  · rintro ⟨h1, h2⟩; exact ⟨x.toNat, by omega, by omega⟩
theorem idRow_sorted (n : Nat) : (idRow n).Pairwise (· < ·) := by
  refine List.pairwise_iff_getElem.2 fun i j hi hj hij => ?_
  simp only [idRow, List.getElem_map, List.getElem_range]
  omega
theorem sorted_nodup {l : List Int} (h : l.Pairwise (· < ·)) : l.Nodup := h.imp (fun {a b} hab e => by subst e; omega)
theorem perm_idRow {xs : List Int} (hr : InRange xs) (hd : xs.Nodup) : xs.Perm (idRow xs.length) :=
  perm_of_within _ _ hd (fun x hx => by
    obtain ⟨i, hi, rfl⟩ := List.mem_iff_getElem.1 hx
    have := hr i hi
    rw [getD_lt 0 hi] at this
    exact mem_idRow.2 this) (by rw [idRow_len]; exact Nat.le_refl _)

theorem idxOf_sorted {x : Int} : ∀ l : List Int, l.Pairwise (· < ·) → x ∈ l → l.idxOf x = (l.filter (fun y => y < x)).length
  | [], _, h => by cases h
  | y :: l, hs, h => by
    obtain ⟨h1, h2⟩ := List.pairwise_cons.1 hs
    by_cases e : y = x
    · subst e
      have : l.filter (fun z => decide (z < y)) = [] := List.filter_eq_nil_iff.2 fun z hz => by have := h1 z hz; simp; omega
      simp [this]
    · have hx : x ∈ l := by
        rcases List.mem_cons.1 h with h | h
        · exact absurd h.symm e
        · exact h
      have hlt := h1 x hx
      rw [List.idxOf_cons, idxOf_sorted l h2 hx]
      simp [hlt, show (y == x) = false by simpa using e]

def smaller (xs : List Int) (k j : Nat) : Nat := (((xs.drop (k + 1)).take j).filter (fun y => y < xs.getD k 0)).length
def rk (xs : List Int) : Nat → Nat
  | 0 => 0
  | k + 1 => rk xs k * (xs.length - k) + smaller xs k (xs.length - (k + 1))
def rank (xs : List Int) : Int := rk xs xs.length

theorem numGo_rk {xs : List Int} : ∀ (f k : Nat) (l : List Int), f + k = xs.length → l.Pairwise (· < ·) → (xs.drop k).Perm l → numGo (xs.drop k) l (rk xs k) = rk xs xs.length
  | 0, k, l, hf, hs, hp => by
    obtain rfl : k = xs.length := by omega
    rw [List.drop_length]; rfl
  | f + 1, k, l, hf, hs, hp => by
    have hk : k < xs.length := by omega
    have hdr := List.drop_eq_getElem_cons hk
    have hg : xs.getD k 0 = xs[k] := getD_lt 0 hk
    have hrk : rk xs (k + 1) = rk xs k * (xs.length - k) + ((xs.drop (k + 1)).filter (fun y => decide (y < xs[k]))).length := by
      simp only [rk, smaller]
      rw [hg, List.take_of_length_le (by simp)]
    have hlen : l.length = xs.length - k := by rw [← hp.length_eq]; simp
    have hdl : (xs.drop (k + 1)).length = xs.length - (k + 1) := by simp
    generalize xs[k] = x at *
    have ih := fun l' h1 h2 => numGo_rk (xs := xs) f (k + 1) l' (by omega) h1 h2
    generalize xs.drop (k + 1) = t at *
    rw [hdr] at hp ⊢
    have hx : x ∈ l := hp.mem_iff.1 (by simp)
    have hi := idxOf_sorted l hs hx
    have hc := (hp.filter (fun y => decide (y < x))).length_eq
    rw [← hi] at hc
    simp at hc
    show numGo t (l.erase x) (rk xs k * l.length + l.idxOf x) = _
    have e1 : rk xs k * l.length + l.idxOf x = rk xs (k + 1) := by rw [hrk, hlen, ← hc]
    rw [e1]
    refine ih _ (hs.sublist List.erase_sublist) ?_
    have := hp.erase x
    simpa using this
theorem number_rank {xs : List Int} (hr : InRange xs) (hd : xs.Nodup) : (number xs : Int) = rank xs := by
  unfold number rank
  have := numGo_rk (xs := xs) xs.length 0 (idRow xs.length) rfl (idRow_sorted _) (by simpa using perm_idRow hr hd)
  simp only [List.drop_zero, rk] at this
  rw [this]

/-! ### Unrank -/
def fac : Nat → Nat
  | 0 => 1
  | n + 1 => (n + 1) * fac n
theorem fac_pos : ∀ n, 0 < fac n
  | 0 => by decide
  | n + 1 => Nat.mul_pos (by omega) (fac_pos n)
theorem fac_le : ∀ {n m : Nat}, n ≤ m → fac n ≤ fac m := by
  intro n m h
  induction h with
  | refl => exact Nat.le_refl _
  | step _ ih => exact Nat.le_trans ih (Nat.le_mul_of_pos_left _ (by omega))
def ur : Nat → List Int → Nat → List Int
  | 0, _, _ => []
  | f + 1, l, r => l.getD (r / fac f) 0 :: ur f (l.eraseIdx (r / fac f)) (r % fac f)
theorem ur_len : ∀ f l r, (ur f l r).length = f
  | 0, _, _ => rfl
  | f + 1, l, r => by simp [ur, ur_len f]
theorem div_fac_lt {f r : Nat} (h : r < fac (f + 1)) : r / fac f < f + 1 := by
  rw [Nat.div_lt_iff_lt_mul (fac_pos f)]; exact h
theorem cons_eraseIdx : ∀ (l : List Int) (k : Nat) (h : k < l.length), (l[k] :: l.eraseIdx k).Perm l
  | x :: l, 0, _ => List.Perm.refl _
  | x :: l, k + 1, h => by
    have ih := cons_eraseIdx l k (by simpa using h)
    simp only [List.getElem_cons_succ, List.eraseIdx_cons_succ]
    exact (List.Perm.swap _ _ _).trans (List.Perm.cons x ih)
theorem erase_at : ∀ (l : List Int) (k : Nat) (h : k < l.length), l.Nodup → l.erase l[k] = l.eraseIdx k
  | x :: l, 0, _, _ => by simp
  | x :: l, k + 1, h, hd => by
    obtain ⟨h1, h2⟩ := List.nodup_cons.1 hd
    have hk : k < l.length := by simpa using h
    have hne : ¬ x = l[k] := fun e => h1 (by rw [e]; exact List.getElem_mem hk)
    have ih := erase_at l k hk h2
    simp only [List.getElem_cons_succ, List.eraseIdx_cons_succ]
    rw [List.erase_cons_tail (by simpa using hne), ih]
theorem ur_perm : ∀ f l r, l.length = f → r < fac f → (ur f l r).Perm l
  | 0, l, r, hl, _ => by
    have : l = [] := List.eq_nil_of_length_eq_zero hl
    subst this; exact List.Perm.refl _
  | f + 1, l, r, hl, hr => by
    have hk := div_fac_lt hr
    have ih := ur_perm f (l.eraseIdx (r / fac f)) (r % fac f) (by rw [List.length_eraseIdx_of_lt (by omega)]; omega) (Nat.mod_lt _ (fac_pos f))
    simp only [ur]
    rw [getD_lt 0 (by omega)]
    exact (List.Perm.cons _ ih).trans (cons_eraseIdx _ _ (by omega))
theorem numGo_ur : ∀ f l r n, l.length = f → l.Nodup → r < fac f → numGo (ur f l r) l n = n * fac f + r
  | 0, l, r, n, _, _, hr => by simp [ur, numGo, fac] at *; omega
  | f + 1, l, r, n, hl, hd, hr => by
    have hk := div_fac_lt hr
    simp only [ur, numGo]
    rw [getD_lt 0 (by omega), hd.idxOf_getElem _ (by omega), erase_at _ _ (by omega) hd]
    rw [numGo_ur f _ _ _ (by rw [List.length_eraseIdx_of_lt (by omega)]; omega) (hd.eraseIdx _) (Nat.mod_lt _ (fac_pos f)), hl]
    have h1 := Nat.div_add_mod r (fac f)
    have h2 : (n * (f + 1) + r / fac f) * fac f = n * ((f + 1) * fac f) + fac f * (r / fac f) := by
      rw [Nat.add_mul, Nat.mul_assoc, Nat.mul_comm (r / fac f)]
    simp only [fac]
    omega
theorem number_ur {n r : Nat} (h : r < fac n) : number (ur n (idRow n) r) = r := by
  unfold number
  rw [ur_len, numGo_ur n (idRow n) r 0 (idRow_len n) (sorted_nodup (idRow_sorted n)) h]
  omega

end Go.Proofs.Ytgjfpmjllpgadaa

/- Contracts of functions of this seat, and plain facts for them: used by the claims. No condition of its own. -/
set_option linter.unusedVariables false
set_option linter.unusedSimpArgs false
namespace Go.Proofs.Ytgjfpmjllpgadaa
open Go.RowKit

theorem smaller_le (xs : List Int) (k j : Nat) : smaller xs k j ≤ j := by
  unfold smaller
  exact Nat.le_trans (List.length_filter_le _ _) (by simp; omega)
theorem smaller_succ {xs : List Int} {k j : Nat} (h : k + 1 + j < xs.length) :
    smaller xs k (j + 1) = smaller xs k j + if xs[k + 1 + j] < xs.getD k 0 then 1 else 0 := by
  unfold smaller
  rw [List.take_succ_eq_append_getElem (by simp; omega), List.filter_append, List.length_append]
  congr 1
  rw [List.getElem_drop]
  generalize xs.getD k 0 = z
  by_cases e : xs[k + 1 + j] < z <;> simp [e]
theorem rk_le (xs : List Int) (h9 : xs.length ≤ 9) : ∀ k, k ≤ xs.length → rk xs k ≤ 10 ^ k
  | 0, _ => by simp [rk]
  | k + 1, hk => by
    have h1 := rk_le xs h9 k (by omega)
    have h2 := smaller_le xs k (xs.length - (k + 1))
    have h3 : rk xs k * (xs.length - k) ≤ 10 ^ k * 9 := Nat.mul_le_mul h1 (by omega)
    have h4 : 0 < 10 ^ k := Nat.pow_pos (by omega)
    have h5 : 10 ^ (k + 1) = 10 ^ k * 10 := Nat.pow_succ ..
    by_cases e : k = 0
    · subst e; simp [rk] at *; omega
    · have h6 : 10 ^ 1 ≤ 10 ^ k := Nat.pow_le_pow_right (by omega) (by omega)
      simp only [rk]; omega
theorem rk_bd (xs : List Int) (h9 : xs.length ≤ 9) (k : Nat) (hk : k ≤ xs.length) : rk xs k ≤ 1000000000 :=
  Nat.le_trans (rk_le xs h9 k hk) (Nat.le_trans (Nat.pow_le_pow_right (by omega) (show k ≤ 9 by omega)) (by decide))

set_option maxHeartbeats 400000 in
theorem rank_fault (A : Option Addr) (cap : Nat) (xs : List Int) (w : World) (h : IsInts w A cap xs) (hf : permFault xs ≠ 0) :
    Calls Try.prog 65 #[.slice A xs.length cap] w fun e w' => e = .returned (.tuple #[.int .i64 0, .int .i64 (permFault xs)]) ∧ w = w' := by
  have hf2 : (permFault xs != 0) = true := by simpa using hf
  go_enter Try.func65, Try.ntmps65
  go_wp2_with (go_at_call 110; refine (check_c _ _ _ _ h).mono ?_; rintro e w' ⟨rfl, rfl⟩)
  go_ret2
  exact ⟨rfl, rfl⟩

set_option maxHeartbeats 400000 in
theorem rank_ok (A : Option Addr) (cap : Nat) (xs : List Int) (w : World) (h : IsInts w A cap xs) (hf : permFault xs = 0) (h9 : xs.length ≤ 9) :
    Calls Try.prog 65 #[.slice A xs.length cap] w fun e w' => e = .returned (.tuple #[.int .i64 (rank xs), .int .i64 0]) ∧ w = w' := by
  have h1 := h.len
  have h2 := h.cap_le
  have HC := Lib.hid hf
  clear hf
  go_enter Try.func65, Try.ntmps65
  go_wp2_with (go_at_call 110; refine (check_c _ _ _ _ h).mono ?_; rw [HC.out]; rintro e w' ⟨rfl, rfl⟩)
  go_loop [5, 6, 7, 8, 10, 18] (fun out _ _ _ _ i => ∃ k : Nat, k ≤ xs.length ∧ i = .int .i64 k ∧ out = .int .i64 (rk xs k)) (fun _ _ _ _ _ i => xs.length - (intOf i).toNat)
  case atStart => exact ⟨0, Nat.zero_le _, rfl, rfl⟩
  case round =>
    obtain ⟨k, hk, rfl, rfl⟩ := hrel
    by_cases hlt : k < xs.length
    · obtain ⟨b, o, rfl, hbl, hc⟩ := h.row (by intro e; simp [e] at hlt)
      have hck := hc k hlt
      rw [getD_lt 0 hlt] at hck
      clear hc
      have hsm := fun j => smaller_le xs k j
      have hrk := rk_bd xs h9 k hk
      have hrk1 := rk_bd xs h9 (k + 1) (by omega)
      have HR : Hid (rk xs (k + 1) = rk xs k * (xs.length - k) + smaller xs k (xs.length - (k + 1))) := rfl
      have hcut := h.cut (k := k + 1) (by omega)
      go_wp2_with ((with_reducible refine at_dst 26 ?_); refine wpList_slice_from _ rfl _ _ 22 3 rfl Try.underlying22 Try.sizeOf3 _ xs.length cap (by rfl) _ (by rfl) (k + 1) (by omega) (by omega) ?_; generalize cutAt _ cap (k + 1) = A' at *)
      go_loop [8, 10, 28] (fun sm _ i => ∃ j : Nat, k + 1 + j ≤ xs.length ∧ i = .int .i64 j ∧ sm = .int .i64 (smaller xs k j)) (fun _ _ i => xs.length - (intOf i).toNat)
      case atStart => exact ⟨0, by omega, rfl, rfl⟩
      case round =>
        obtain ⟨j, hj, rfl, rfl⟩ := hrel
        have hs := hsm j
        clear hsm
        by_cases hjl : k + 1 + j < xs.length
        · obtain ⟨b', o', rfl, hbl', hc⟩ := hcut.row (by intro e; have := congrArg List.length e; simp at this; omega)
          have hcj := hc j (by simp; omega)
          rw [getD_lt 0 (by simp; omega), List.getElem_drop] at hcj
          clear hc
          have HS := Lib.hid (smaller_succ hjl)
          rw [getD_lt 0 hlt] at HS
          go_wp2
          all_goals
            go_round
            case rel => exact ⟨j + 1, by omega, by go_num, by rw [HS.out]; first | (rw [if_pos ‹_›]; go_num) | (rw [if_neg (by omega)]; go_num)⟩
            case measure => simp [intOf]; omega
        · have hp1 : (0 : Int) ≤ (rk xs k : Int) * ((xs.length : Int) - (k : Int)) := Int.mul_nonneg (by omega) (by omega)
          have hp2 : (rk xs k : Int) * ((xs.length : Int) - (k : Int)) ≤ 1000000000 * 9 := Int.mul_le_mul (by omega) (by omega) (by omega) (by omega)
          obtain rfl : j = xs.length - (k + 1) := by omega
          go_wp2
          go_round
          case rel => exact ⟨k + 1, by omega, by go_num, by rw [HR.out]; congr 1; rw [Int.natCast_add, Int.natCast_mul, Int.natCast_sub hk]⟩
          case measure => simp [intOf]; omega
    · go_wp2
      go_ret2
      obtain rfl : k = xs.length := by omega
      exact ⟨rfl, rfl⟩
end Go.Proofs.Ytgjfpmjllpgadaa

/- Contracts of functions of this seat, and plain facts for them: used by the claims. No condition of its own. -/
set_option linter.unusedVariables false
set_option linter.unusedSimpArgs false
namespace Go.Proofs.Ytgjfpmjllpgadaa
open Go.RowKit

theorem bd_of_all {xs : List Int} (h : xs.all (fun x => decide (-9223372036854775808 ≤ x) && decide (x ≤ 9223372036854775807)) = true) : ∀ i, i < xs.length → in64 (xs.getD i 0) := by
  intro i hi
  rw [getD_lt 0 hi]
  have := List.all_eq_true.1 h _ (List.getElem_mem hi)
  simpa [in64] using this

end Go.Proofs.Ytgjfpmjllpgadaa
