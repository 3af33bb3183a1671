/- Facts and contracts that the claim uses. No condition of its own. -/
import Derived.Test.YtkmkcbkfakoomaaGRingRowsAA
set_option linter.unusedVariables false
set_option linter.unusedSimpArgs false
namespace Go.Proofs.Ytkmkcbkfakoomaa
def idRow (n : Nat) : List Int := (List.range n).map (fun i : Nat => (i : Int))
theorem idRow_len (n : Nat) : (idRow n).length = n := by simp [idRow]
theorem idRow_get {n i : Nat} (h : i < n) : (idRow n).getD i 0 = i := by
  rw [getD_lt 0 (by rw [idRow_len]; exact h)]; simp [idRow]
def numGo : List Int → List Int → Nat → Nat
  | [], _, n => n
  | x :: xs, rest, n => numGo xs (rest.erase x) (n * rest.length + rest.idxOf x)
def number (xs : List Int) : Nat := numGo xs (idRow xs.length) 0
theorem perm_of_within : ∀ (l m : List Int), l.Nodup → (∀ x ∈ l, x ∈ m) → m.length ≤ l.length → l.Perm m
  | [], m, _, _, hl => by
    have : m = [] := List.eq_nil_of_length_eq_zero (by simpa using hl)
    subst this; exact List.Perm.refl _
  | x :: l, m, hd, hm, hl => by
    have hx := hm x (by simp)
    have hp := List.perm_cons_erase hx
    obtain ⟨hd1, hd2⟩ := List.nodup_cons.1 hd
    refine (List.Perm.cons x (perm_of_within l (m.erase x) hd2 (fun y hy => ?_) ?_)).trans hp.symm
    · refine (List.mem_erase_of_ne ?_).2 (hm y (by simp [hy]))
      rintro rfl; exact hd1 hy
    · rw [List.length_erase_of_mem hx]; simp at hl; omega
theorem mem_idRow {n : Nat} {x : Int} : x ∈ idRow n ↔ 0 ≤ x ∧ x < n := by
  simp only [idRow, List.mem_map, List.mem_range]
  constructor
  · rintro ⟨a, ha, rfl⟩; omega
  · rintro ⟨h1, h2⟩; exact ⟨x.toNat, by omega, by omega⟩
theorem idRow_sorted (n : Nat) : (idRow n).Pairwise (· < ·) := by
  refine List.pairwise_iff_getElem.2 fun i j hi hj hij => ?_
  simp only [idRow, List.getElem_map, List.getElem_range]
  omega
theorem perm_idRow {xs : List Int} (hr : InRange xs) (hd : xs.Nodup) : xs.Perm (idRow xs.length) :=
  perm_of_within _ _ hd (fun x hx => by
    obtain ⟨i, hi, rfl⟩ := List.mem_iff_getElem.1 hx
    have := hr i hi
    rw [getD_lt 0 hi] at this
    exact mem_idRow.2 this) (by rw [idRow_len]; exact Nat.le_refl _)
theorem idxOf_sorted {x : Int} : ∀ l : List Int, l.Pairwise (· < ·) → x ∈ l → l.idxOf x = (l.filter (fun y => y < x)).length
  | [], _, h => by cases h
  | y :: l, hs, h => by
    obtain ⟨h1, h2⟩ := List.pairwise_cons.1 hs
    by_cases e : y = x
    · subst e
      have : l.filter (fun z => decide (z < y)) = [] := List.filter_eq_nil_iff.2 fun z hz => by have := h1 z hz; simp; omega
      simp [this]
    · have hx : x ∈ l := by
        rcases List.mem_cons.1 h with h | h
        · exact absurd h.symm e
        · exact h
      have hlt := h1 x hx
      rw [List.idxOf_cons, idxOf_sorted l h2 hx]
      simp [hlt, show (y == x) = false by simpa using e]
def smaller (xs : List Int) (k j : Nat) : Nat := (((xs.drop (k + 1)).take j).filter (fun y => y < xs.getD k 0)).length
def rk (xs : List Int) : Nat → Nat
  | 0 => 0
  | k + 1 => rk xs k * (xs.length - k) + smaller xs k (xs.length - (k + 1))
def rank (xs : List Int) : Int := rk xs xs.length
theorem numGo_rk {xs : List Int} : ∀ (f k : Nat) (l : List Int), f + k = xs.length → l.Pairwise (· < ·) → (xs.drop k).Perm l → numGo (xs.drop k) l (rk xs k) = rk xs xs.length
  | 0, k, l, hf, hs, hp => by
    obtain rfl : k = xs.length := by omega
    rw [List.drop_length]; rfl
  | f + 1, k, l, hf, hs, hp => by
    have hk : k < xs.length := by omega
    have hdr := List.drop_eq_getElem_cons hk
    have hg : xs.getD k 0 = xs[k] := getD_lt 0 hk
    have hrk : rk xs (k + 1) = rk xs k * (xs.length - k) + ((xs.drop (k + 1)).filter (fun y => decide (y < xs[k]))).length := by
      simp only [rk, smaller]
      rw [hg, List.take_of_length_le (by simp)]
    have hlen : l.length = xs.length - k := by rw [← hp.length_eq]; simp
    have hdl : (xs.drop (k + 1)).length = xs.length - (k + 1) := by simp
    generalize xs[k] = x at *
    have ih := fun l' h1 h2 => numGo_rk (xs := xs) f (k + 1) l' (by omega) h1 h2
    generalize xs.drop (k + 1) = t at *
    rw [hdr] at hp ⊢
    have hx : x ∈ l := hp.mem_iff.1 (by simp)
    have hi := idxOf_sorted l hs hx
    have hc := (hp.filter (fun y => decide (y < x))).length_eq
    rw [← hi] at hc
    simp at hc
    show numGo t (l.erase x) (rk xs k * l.length + l.idxOf x) = _
    have e1 : rk xs k * l.length + l.idxOf x = rk xs (k + 1) := by rw [hrk, hlen, ← hc]
    rw [e1]
    refine ih _ (hs.sublist List.erase_sublist) ?_
    have := hp.erase x
    simpa using this
theorem number_rank {xs : List Int} (hr : InRange xs) (hd : xs.Nodup) : (number xs : Int) = rank xs := by
  unfold number rank
  have := numGo_rk (xs := xs) xs.length 0 (idRow xs.length) rfl (idRow_sorted _) (by simpa using perm_idRow hr hd)
  simp only [List.drop_zero, rk] at this
  rw [this]
end Go.Proofs.Ytkmkcbkfakoomaa
