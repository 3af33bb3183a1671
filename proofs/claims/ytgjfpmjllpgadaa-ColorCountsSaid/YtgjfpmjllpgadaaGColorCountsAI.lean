/- The Smith form: every integer matrix is like a diagonal one whose entries divide each other. Plain facts: nothing of the program is here. -/
import Derived.Test.YtgjfpmjllpgadaaGColorCountsAH
set_option linter.unusedVariables false
set_option linter.unusedSimpArgs false
namespace Go.Proofs.Ytgjfpmjllpgadaa

structure Smi (s n k : Nat) (N : Nat → Nat → Int) : Prop where
  off : ∀ r c, r < n → c < k → r ≠ c → (r < s ∨ c < s) → N r c = 0
  chain : ∀ i, i + 1 < s → N i i ∣ N (i + 1) (i + 1)
  blk : 1 ≤ s → ∀ r c, s ≤ r → r < n → s ≤ c → c < k → N (s - 1) (s - 1) ∣ N r c
theorem smith (n k : Nat) (M : Nat → Nat → Int) : ∀ s, s ≤ n → s ≤ k → ∃ N, Eqv 0 n k M N ∧ Smi s n k N
  | 0, _, _ => ⟨M, .refl, fun r c _ _ _ h => by omega, fun i h => by omega, fun h => by omega⟩
  | s + 1, hn, hk => by
    obtain ⟨N, h1, h2⟩ := smith n k M s (by omega) (by omega)
    by_cases hz : ∃ r c, s ≤ r ∧ r < n ∧ s ≤ c ∧ c < k ∧ N r c ≠ 0
    · obtain ⟨v, ⟨N', r0, c0, a1, a2, a3, a4, a5, a6, a7⟩, hmin⟩ := least (P := fun v => ∃ N' r c, Eqv s n k N N' ∧ s ≤ r ∧ r < n ∧ s ≤ c ∧ c < k ∧ N' r c ≠ 0 ∧ (N' r c).natAbs = v) (by
        obtain ⟨r, c, g1, g2, g3, g4, g5⟩ := hz
        exact ⟨_, N, r, c, .refl, g1, g2, g3, g4, g5, rfl⟩)
      have hm : Min s n k N (N' r0 c0) := ⟨a6, fun L hL r c g1 g2 g3 g4 g5 => by
        rw [a7]; exact hmin _ ⟨L, r, c, hL, g1, g2, g3, g4, g5, rfl⟩⟩
      obtain ⟨L, b1, b2, b3, b4⟩ := hm.done ⟨by omega, by omega⟩ a1 ⟨a2, a3⟩ ⟨a4, a5⟩ rfl
      obtain ⟨o1, o2⟩ := b1.out (fun r c g1 g2 g3 => h2.off r c g1 g2 (by omega) (by omega))
      refine ⟨L, h1.trans (b1.low (Nat.zero_le _)), fun r c g1 g2 g3 g4 => ?_, fun i hi => ?_, fun _ r c g1 g2 g3 g4 => b4 r c (by omega) g2 (by omega) g4⟩
      · by_cases hr : r < s
        · by_cases hc : c < s
          · rw [o2 r c hr hc]; exact h2.off r c g1 g2 g3 (.inl hr)
          · exact o1 r c g1 g2 (.inl ⟨hr, by omega⟩)
        · by_cases hc : c < s
          · exact o1 r c g1 g2 (.inr ⟨by omega, hc⟩)
          · by_cases hrs : r = s
            · rw [hrs]; exact b3 c (by omega) g2
            · have : c = s := by omega
              rw [this]; exact b2 r (by omega) g1
      · by_cases his : i + 1 < s
        · rw [o2 i i (by omega) (by omega), o2 (i + 1) (i + 1) his his]; exact h2.chain i his
        · have hs : s = i + 1 := by omega
          have := b1.blk (h2.blk (by omega)) s s (Nat.le_refl _) (by omega) (Nat.le_refl _) (by omega)
          rw [← o2 (s - 1) (s - 1) (by omega) (by omega)] at this
          rw [show s - 1 = i by omega, show L s s = L (i + 1) (i + 1) by rw [hs]] at this
          exact this
    · have hz' : ∀ r c, s ≤ r → r < n → s ≤ c → c < k → N r c = 0 := fun r c g1 g2 g3 g4 => Classical.byContradiction fun h => hz ⟨r, c, g1, g2, g3, g4, h⟩
      refine ⟨N, h1, fun r c g1 g2 g3 g4 => ?_, fun i hi => ?_, fun _ r c g1 g2 g3 g4 => ?_⟩
      · by_cases hr : r < s ∨ c < s
        · exact h2.off r c g1 g2 g3 hr
        · exact hz' r c (by omega) g1 (by omega) g2
      · by_cases his : i + 1 < s
        · exact h2.chain i his
        · have hs : s = i + 1 := by omega
          have := hz' (i + 1) (i + 1) (by omega) (by omega) (by omega) (by omega)
          rw [this]; exact Int.dvd_zero _
      · rw [hz' r c (by omega) g2 (by omega) g4]; exact Int.dvd_zero _
/-- every matrix is like a diagonal one whose entries divide each other -/
theorem smith_ex (n k : Nat) (M : Nat → Nat → Int) : ∃ N, Eqv 0 n k M N ∧ (∀ r c, r < n → c < k → r ≠ c → N r c = 0) ∧ ∀ i, i + 1 < min n k → N i i ∣ N (i + 1) (i + 1) := by
  obtain ⟨N, h1, h2⟩ := smith n k M (min n k) (Nat.min_le_left _ _) (Nat.min_le_right _ _)
  exact ⟨N, h1, fun r c hr hc hne => h2.off r c hr hc hne (by omega), h2.chain⟩
end Go.Proofs.Ytgjfpmjllpgadaa

/- The number of solutions modulo m is the same for matrices that are alike. Plain facts: nothing of the program is here. -/
set_option linter.unusedVariables false
set_option linter.unusedSimpArgs false
namespace Go.Proofs.Ytgjfpmjllpgadaa

/-- all lists of k numbers below m -/
def vecs (m : Nat) : Nat → List (List Nat)
  | 0 => [[]]
  | k + 1 => (List.range m).flatMap fun x => (vecs m k).map (x :: ·)
theorem mem_vecs {m : Nat} : ∀ {k : Nat} {v : List Nat}, v ∈ vecs m k ↔ v.length = k ∧ ∀ x ∈ v, x < m
  | 0, v => by
    simp only [vecs, List.mem_singleton]
    constructor
    · rintro rfl; simp
    · rintro ⟨h, _⟩; exact List.eq_nil_of_length_eq_zero h
  | k + 1, v => by
    simp only [vecs, List.mem_flatMap, List.mem_range, List.mem_map]
    constructor
    · rintro ⟨x, hx, u, hu, rfl⟩
      obtain ⟨h1, h2⟩ := mem_vecs.1 hu
      refine ⟨by simp [h1], fun y hy => ?_⟩
      rcases List.mem_cons.1 hy with rfl | hy
      · exact hx
      · exact h2 y hy
    · rintro ⟨h1, h2⟩
      match v, h1, h2 with
      | x :: u, h1, h2 => exact ⟨x, h2 x (by simp), u, mem_vecs.2 ⟨by simpa using h1, fun y hy => h2 y (by simp [hy])⟩, rfl⟩
theorem nodup_cons_flat {m : Nat} {L : List (List Nat)} (hL : L.Nodup) : ∀ l : List Nat, l.Nodup → (l.flatMap fun x => L.map (x :: ·)).Nodup
  | [], _ => by simp
  | x :: l, h => by
    obtain ⟨h1, h2⟩ := List.nodup_cons.1 h
    rw [List.flatMap_cons]
    refine List.nodup_append.2 ⟨?_, nodup_cons_flat (m := m) hL l h2, fun u hu w hw e => ?_⟩
    · exact List.Pairwise.map _ (fun a b hab hh => hab (by injection hh)) hL
    · subst e
      obtain ⟨u1, _, rfl⟩ := List.mem_map.1 hu
      obtain ⟨y, hy, hw2⟩ := List.mem_flatMap.1 hw
      obtain ⟨u2, _, e⟩ := List.mem_map.1 hw2
      injection e with e1 e2
      exact h1 (e1 ▸ hy)
theorem nodup_vecs (m : Nat) : ∀ k, (vecs m k).Nodup
  | 0 => by simp [vecs]
  | k + 1 => nodup_cons_flat (m := m) (nodup_vecs m k) _ List.nodup_range
def dotV (f : Nat → Int) (v : List Nat) (k : Nat) : Int := sm (List.range k) fun j => f j * ((v.getD j 0 : Nat) : Int)
def solB (M : Nat → Nat → Int) (n k m : Nat) (v : List Nat) : Bool := (List.range n).all fun r => decide ((m : Int) ∣ dotV (M r) v k)
def cntS (M : Nat → Nat → Int) (n k m : Nat) : Nat := ((vecs m k).filter (solB M n k m)).length
theorem sm_add {α : Type} (g h : α → Int) : ∀ l : List α, sm l (fun x => g x + h x) = sm l g + sm l h
  | [] => rfl
  | x :: l => by simp only [sm]; rw [sm_add g h l]; omega
theorem dot_row (M : Nat → Nat → Int) (i j : Nat) (c : Int) (v : List Nat) (k : Nat) : dotV (rowAdd M i j c i) v k = dotV (M i) v k + c * dotV (M j) v k := by
  unfold dotV
  rw [← sm_mul, ← sm_add]
  refine sm_congr (fun x _ => ?_)
  show (if i = i then _ else _) * _ = _
  rw [if_pos rfl, Int.add_mul, Int.mul_assoc]
theorem cnt_row {M : Nat → Nat → Int} {n k m i j : Nat} (hi : i < n) (hj : j < n) (hij : i ≠ j) (c : Int) : cntS (rowAdd M i j c) n k m = cntS M n k m := by
  unfold cntS
  congr 1
  refine List.filter_congr (fun v _ => ?_)
  have ho : ∀ r, r ≠ i → dotV (rowAdd M i j c r) v k = dotV (M r) v k := fun r hr => by
    unfold dotV
    refine sm_congr (fun x _ => ?_)
    show (if r = i then _ else _) * _ = _
    rw [if_neg hr]
  rw [Bool.eq_iff_iff]
  unfold solB
  simp only [List.all_eq_true, List.mem_range, decide_eq_true_eq]
  constructor
  · intro h r hr
    by_cases e : r = i
    · subst e
      have h1 := h r hr
      have h2 := h j hj
      rw [dot_row] at h1
      rw [ho j (fun e => hij e.symm)] at h2
      have := Int.dvd_sub h1 (Int.dvd_trans h2 (Int.dvd_mul_left c _))
      rwa [Int.add_sub_cancel] at this
    · rw [← ho r e]; exact h r hr
  · intro h r hr
    by_cases e : r = i
    · subst e
      rw [dot_row]
      exact Int.dvd_add (h r hr) (Int.dvd_trans (h j hj) (Int.dvd_mul_left c _))
    · rw [ho r e]; exact h r hr
end Go.Proofs.Ytgjfpmjllpgadaa
