/- Facts and contracts that the claim uses. No condition of its own. -/
import Derived.Test.YtdlpbpfcgjgppaaGJonesStatesBG
import Derived.Test.YtdlpbpfcgjgppaaGJonesStatesBH
set_option linter.unusedVariables false
set_option linter.unusedSimpArgs false
namespace Go.Proofs.Ytdlpbpfcgjgppaa
def pSt (s : Nat) (f : Nat → Nat) (k : Nat) : List (Nat × Nat) := (List.range k).map fun i => (s + i, s + f i)
def ppK (n : Nat) (f : Nat → Nat → Nat) : Nat → List (Nat × Nat)
  | 0 => []
  | k + 1 => ppK n f k ++ pSt (k * n) (f k) (2 * n)
def outM (n m i : Nat) : Nat := if i < n then i else n * m + i - n
theorem mem_pSt {s k x y : Nat} {f : Nat → Nat} : (x, y) ∈ pSt s f k ↔ ∃ i, i < k ∧ x = s + i ∧ y = s + f i := by
  simp only [pSt, List.mem_map, List.mem_range, Prod.mk.injEq]
  exact ⟨fun ⟨i, h1, h2, h3⟩ => ⟨i, h1, h2.symm, h3.symm⟩, fun ⟨i, h1, h2, h3⟩ => ⟨i, h1, h2.symm, h3.symm⟩⟩
theorem ppK_lt {n : Nat} {f : Nat → Nat → Nat} : ∀ k, (∀ j, j < k → Mt n (f j)) → ∀ p ∈ ppK n f k, p.1 < n * (k + 1) ∧ p.2 < n * (k + 1)
  | 0, _, p, hp => by cases hp
  | k + 1, hf, p, hp => by
    have e1 : n * (k + 1) = n * k + n := by rw [Nat.mul_add, Nat.mul_one]
    have e2 : n * (k + 1 + 1) = n * k + 2 * n := by rw [Nat.mul_add, e1]; omega
    have e3 : k * n = n * k := Nat.mul_comm _ _
    rcases List.mem_append.1 hp with hp | hp
    · have := ppK_lt k (fun j hj => hf j (by omega)) p hp
      omega
    · obtain ⟨x, y⟩ := p
      obtain ⟨i, h1, rfl, rfl⟩ := mem_pSt.1 hp
      have := (hf k (by omega)).lt i h1
      simp only
      omega
theorem ppK_ok {n k : Nat} {f : Nat → Nat → Nat} (hf : ∀ j, j < k → Mt n (f j)) : ∀ x, x < n * (k + 1) → joinA id (ppK n f k) x < n * (k + 1) ∧ joinA id (ppK n f k) (joinA id (ppK n f k) x) = joinA id (ppK n f k) x :=
  joinA_ok _ _ (fun x hx => ⟨hx, rfl⟩) (ppK_lt k hf)
structure Stk (n m : Nat) (f : Nat → Nat → Nat) (o : Nat → Nat) (c : Nat) : Prop where
  mt : Mt n o
  key : ∀ i, i < 2 * n → o i < 2 * n ∧ o i ≠ i ∧ joinA id (ppK n f m) (outM n m i) = joinA id (ppK n f m) (outM n m (o i)) ∧ ∀ k', k' < 2 * n → k' ≠ i → joinA id (ppK n f m) (outM n m i) = joinA id (ppK n f m) (outM n m k') → k' = o i
  cnt : sN (fun x => ind (joinA id (ppK n f m) x = x)) (n * (m + 1)) = n + c
theorem mt_of_key {n : Nat} {o : Nat → Nat} {r : Nat → Nat} {out : Nat → Nat} (h : ∀ i, i < 2 * n → o i < 2 * n ∧ o i ≠ i ∧ r (out i) = r (out (o i)) ∧ ∀ k', k' < 2 * n → k' ≠ i → r (out i) = r (out k') → k' = o i) : Mt n o :=
  ⟨fun i hi => (h i hi).1, fun i hi => (h i hi).2.1, fun i hi => by
    obtain ⟨h1, h2, h3, _⟩ := h i hi
    exact ((h (o i) h1).2.2.2 i hi (fun e => h2 e.symm) h3.symm).symm⟩
def oneM (n i : Nat) : Nat := if i < n then n + i else i - n
theorem stk_zero {n : Nat} (f : Nat → Nat → Nat) : Stk n 0 f (oneM n) 0 := by
  have key : ∀ i, i < 2 * n → oneM n i < 2 * n ∧ oneM n i ≠ i ∧ joinA id (ppK n f 0) (outM n 0 i) = joinA id (ppK n f 0) (outM n 0 (oneM n i)) ∧ ∀ k', k' < 2 * n → k' ≠ i → joinA id (ppK n f 0) (outM n 0 i) = joinA id (ppK n f 0) (outM n 0 k') → k' = oneM n i := fun i hi => by
    refine ⟨by unfold oneM; split <;> omega, by unfold oneM; split <;> omega, ?_, fun k' h1 h2 h3 => ?_⟩
    · show outM n 0 i = outM n 0 (oneM n i)
      unfold outM oneM
      rw [Nat.mul_zero]
      split <;> split <;> omega
    · have h3 : outM n 0 i = outM n 0 k' := h3
      unfold outM at h3
      unfold oneM
      rw [Nat.mul_zero] at h3
      split at h3 <;> split at h3 <;> split <;> omega
  refine ⟨mt_of_key key, key, ?_⟩
  rw [← rts_len]
  show ((List.range (n * (0 + 1))).filter fun x => decide (id x = x)).length = n + 0
  rw [List.filter_eq_self.2 (fun x _ => decide_eq_true (show id x = x from rfl)), List.length_range]
  omega
theorem stk_step {n k : Nat} {f : Nat → Nat → Nat} (hf : ∀ j, j ≤ k → Mt n (f j)) {o o' : Nat → Nat} {c l : Nat} (S : Stk n k f o c)
    (key' : ∀ i, i < 2 * n → o' i < 2 * n ∧ o' i ≠ i ∧ joinA id (prsP n o (f k)) (outN n i) = joinA id (prsP n o (f k)) (outN n (o' i)) ∧ ∀ k', k' < 2 * n → k' ≠ i → joinA id (prsP n o (f k)) (outN n i) = joinA id (prsP n o (f k)) (outN n k') → k' = o' i)
    (cnt' : sN (fun x => ind (joinA id (prsP n o (f k)) x = x)) (3 * n) = n + l) : Stk n (k + 1) f o' (c + l) := by
  have ho := S.mt
  have hfk := hf k (Nat.le_refl _)
  have hrr := ppK_ok (n := n) (k := k) (f := f) (fun j hj => hf j (by omega))
  have hrr' := ppK_ok (n := n) (k := k + 1) (f := f) (fun j hj => hf j (by omega))
  obtain ⟨r, hr⟩ : ∃ r, r = joinA id (ppK n f k) := ⟨_, rfl⟩
  obtain ⟨r', hr'⟩ : ∃ r', r' = joinA id (ppK n f (k + 1)) := ⟨_, rfl⟩
  obtain ⟨rp, hrp⟩ : ∃ rp, rp = joinA id (prsP n o (f k)) := ⟨_, rfl⟩
  have hkey := S.key
  have hcnt := S.cnt
  rw [← hr] at hkey hcnt hrr
  rw [← hr'] at hrr'
  rw [← hrp] at key' cnt'
  have e1 : n * (k + 1) = n * k + n := by rw [Nat.mul_add, Nat.mul_one]
  have e2 : n * (k + 1 + 1) = n * k + 2 * n := by rw [Nat.mul_add, e1]; omega
  have e3 : k * n = n * k := Nat.mul_comm _ _
  obtain ⟨nk, hnk⟩ : ∃ nk, nk = n * k := ⟨_, rfl⟩
  rw [e1, ← hnk] at hrr hcnt
  rw [e2, ← hnk] at hrr'
  rw [← hnk] at e3
  have cr : ∀ x y, r x = r y ↔ Cn (ppK n f k) x y := by rw [hr]; exact joinA_cn _
  have cr' : ∀ x y, r' x = r' y ↔ Cn (ppK n f (k + 1)) x y := by rw [hr']; exact joinA_cn _
  have cp : ∀ x y, rp x = rp y ↔ Cn (prsP n o (f k)) x y := by rw [hrp]; exact joinA_cn _
  have up : ∀ {x y}, r x = r y → r' x = r' y := fun {x y} h => (cr' x y).2 (((cr x y).1 h).mono fun p hp => List.mem_append_left _ hp)
  have stp : ∀ i, i < 2 * n → r' (nk + i) = r' (nk + f k i) := fun i hi => (cr' _ _).2 (.pair (List.mem_append_right _ (mem_pSt.2 ⟨i, hi, by rw [e3], by rw [e3]⟩)))
  have po : ∀ i, i < 2 * n → rp i = rp (o i) := fun i hi => (cp _ _).2 (.pair (List.mem_append_left _ (List.mem_map.2 ⟨i, List.mem_range.2 hi, rfl⟩)))
  have pf : ∀ i, i < 2 * n → rp (n + i) = rp (n + f k i) := fun i hi => (cp _ _).2 (.pair (List.mem_append_right _ (List.mem_map.2 ⟨i, List.mem_range.2 hi, rfl⟩)))
  have hout : ∀ i, outM n k i = if i < n then i else nk + i - n := fun i => by unfold outM; rw [hnk]
  let φ : Nat → Nat := fun p => if p < n then p else nk + (p - n)
  have φ1 : ∀ p, p < n → φ p = p := fun p hp => if_pos hp
  have φ2 : ∀ p, ¬ p < n → φ p = nk + (p - n) := fun p hp => if_neg hp
  have φo : ∀ i, i < 2 * n → φ i = outM n k i := fun i hi => by
    rw [hout]
    by_cases c : i < n
    · rw [φ1 i c, if_pos c]
    · rw [φ2 i c, if_neg c]; omega
  have olt : ∀ i, i < 2 * n → outM n k i < nk + n := fun i hi => by rw [hout]; split <;> omega
  let Q : Nat → Nat → Prop := fun q z => (z < nk + n ∧ ∃ i, i < 2 * n ∧ r z = r (outM n k i) ∧ rp i = q) ∨ (nk + n ≤ z ∧ rp (z - nk + n) = q)
  have oo : ∀ {i j}, i < 2 * n → j < 2 * n → r (outM n k i) = r (outM n k j) → rp i = rp j := fun {i j} hi hj h => by
    by_cases e : j = i
    · rw [e]
    · rw [(hkey i hi).2.2.2 j hj e h]; exact po i hi
  have Qst : ∀ q i, i < 2 * n → (Q q (nk + i) ↔ rp (n + i) = q) := fun q i hi => by
    by_cases c : i < n
    · have eo : outM n k (n + i) = nk + i := by rw [hout, if_neg (by omega)]; omega
      constructor
      · rintro (⟨_, j, j1, j2, rfl⟩ | ⟨h, _⟩)
        · rw [← eo] at j2
          exact oo (by omega) j1 j2
        · omega
      · intro h
        exact .inl ⟨by omega, n + i, by omega, by rw [eo], h⟩
    · have e : nk + i - nk + n = n + i := by omega
      constructor
      · rintro (⟨h, _⟩ | ⟨_, h⟩)
        · omega
        · rwa [e] at h
      · intro h
        exact .inr ⟨by omega, by rw [e]; exact h⟩
  have Qpair : ∀ q x y, Cn (ppK n f (k + 1)) x y → (Q q x ↔ Q q y) := fun q x y h => by
    induction h with
    | @pair x y hp =>
      rcases List.mem_append.1 hp with hp | hp
      · have hl := ppK_lt k (fun j hj => hf j (by omega)) _ hp
        rw [e1, ← hnk] at hl
        have e : r x = r y := (cr x y).2 (.pair hp)
        have key : ∀ {a b}, b < nk + n → a < nk + n → r a = r b → Q q a → Q q b := fun {a b} hb ha e h => by
          rcases h with ⟨_, j, j1, j2, j3⟩ | ⟨h, _⟩
          · exact .inl ⟨hb, j, j1, by rw [← e]; exact j2, j3⟩
          · omega
        exact ⟨key hl.2 hl.1 e, key hl.1 hl.2 e.symm⟩
      · obtain ⟨i, hi, h1, h2⟩ := mem_pSt.1 hp
        rw [e3] at h1 h2
        subst h1 h2
        rw [Qst q i hi, Qst q _ (hfk.lt i hi), pf i hi]
    | refl x => exact Iff.rfl
    | symm _ ih => exact ih.symm
    | trans _ _ ih1 ih2 => exact ih1.trans ih2
  have Qφ : ∀ p, p < 3 * n → Q (rp p) (φ p) := fun p hp => by
    by_cases c : p < 2 * n
    · rw [φo p c]
      exact .inl ⟨olt p c, p, c, rfl, rfl⟩
    · rw [φ2 p (by omega)]
      exact .inr ⟨by omega, by rw [show nk + (p - n) - nk + n = p by omega]⟩
  have Qφ2 : ∀ q p, p < 3 * n → Q q (φ p) → rp p = q := fun q p hp h => by
    by_cases c : p < 2 * n
    · rw [φo p c] at h
      rcases h with ⟨_, j, j1, j2, j3⟩ | ⟨h, _⟩
      · rw [← j3]; exact oo c j1 j2
      · have := olt p c; omega
    · rw [φ2 p (by omega)] at h
      rcases h with ⟨h, _⟩ | ⟨_, h⟩
      · omega
      · rwa [show nk + (p - n) - nk + n = p by omega] at h
  have B : ∀ x y, x < 3 * n → y < 3 * n → r' (φ x) = r' (φ y) → rp x = rp y := fun x y hx hy h =>
    Qφ2 _ x hx ((Qpair _ _ _ ((cr' _ _).1 h)).2 (Qφ y hy))
  have F : ∀ x y, x < 3 * n → y < 3 * n → rp x = rp y → r' (φ x) = r' (φ y) := by
    have : ∀ x y, Cn (prsP n o (f k)) x y → r' (φ x) = r' (φ y) := fun x y h => by
      induction h with
      | @pair x y hp =>
        rcases List.mem_append.1 hp with hp | hp
        · obtain ⟨i, hi, e⟩ := List.mem_map.1 hp
          have hi := List.mem_range.1 hi
          obtain ⟨rfl, rfl⟩ := Prod.mk.inj e
          rw [φo i hi, φo (o i) (ho.lt i hi)]
          exact up (hkey i hi).2.2.1
        · obtain ⟨i, hi, e⟩ := List.mem_map.1 hp
          have hi := List.mem_range.1 hi
          obtain ⟨rfl, rfl⟩ := Prod.mk.inj e
          rw [φ2 _ (by omega), φ2 _ (by omega), show n + i - n = i by omega, show n + f k i - n = f k i by omega]
          exact stp i hi
      | refl x => rfl
      | symm _ ih => exact ih.symm
      | trans _ _ ih1 ih2 => exact ih1.trans ih2
    exact fun x y _ _ h => this x y ((cp x y).1 h)
  have oφ : ∀ i, i < 2 * n → outM n (k + 1) i = φ (outN n i) ∧ outN n i < 3 * n := fun i hi => by
    unfold outM outN
    rw [e1, ← hnk]
    by_cases c : i < n
    · rw [if_pos c, if_pos c, φ1 i c]; omega
    · rw [if_neg c, if_neg c, φ2 _ (by omega)]; omega
  have key2 : ∀ i, i < 2 * n → o' i < 2 * n ∧ o' i ≠ i ∧ r' (outM n (k + 1) i) = r' (outM n (k + 1) (o' i)) ∧ ∀ k', k' < 2 * n → k' ≠ i → r' (outM n (k + 1) i) = r' (outM n (k + 1) k') → k' = o' i := fun i hi => by
    obtain ⟨h1, h2, h3, h4⟩ := key' i hi
    obtain ⟨g1, g2⟩ := oφ i hi
    obtain ⟨g3, g4⟩ := oφ _ h1
    refine ⟨h1, h2, by rw [g1, g3]; exact F _ _ g2 g4 h3, fun k' q1 q2 q3 => h4 k' q1 q2 ?_⟩
    obtain ⟨g5, g6⟩ := oφ k' q1
    rw [g1, g5] at q3
    exact B _ _ g2 g6 q3
  let C := (rts r (nk + n)).filter fun x => ¬ (List.range (2 * n)).any fun i => decide (r x = r (outM n k i))
  have hC : ∀ x, x ∈ C ↔ x < nk + n ∧ r x = x ∧ ∀ i, i < 2 * n → r x ≠ r (outM n k i) := fun x => by
    simp [C, rts, and_assoc]
    exact fun _ => And.comm
  have T0 := rts_trv (r := r) (N := nk + n) hrr
  have Tp : Trv rp (· < 3 * n) (rts rp (3 * n)) := rts_trv (by
    rw [hrp]
    refine joinA_ok _ _ (fun x hx => ⟨hx, rfl⟩) (fun p hp => ?_)
    rcases List.mem_append.1 hp with hp | hp
    · obtain ⟨i, hi, rfl⟩ := List.mem_map.1 hp
      have hi := List.mem_range.1 hi
      have := ho.lt i hi
      exact ⟨by simp only; omega, by simp only; omega⟩
    · obtain ⟨i, hi, rfl⟩ := List.mem_map.1 hp
      have hi := List.mem_range.1 hi
      have := hfk.lt i hi
      exact ⟨by simp only; omega, by simp only; omega⟩)
  have c1 : (rts r (nk + n)).length = n + C.length := by
    have : Trv r (· < nk + n) ((((List.range (2 * n)).filter fun i => i < o i).map (outM n k)) ++ C) := by
      have hO : ∀ x, x ∈ (((List.range (2 * n)).filter fun i => i < o i).map (outM n k)) ↔ ∃ i, i < 2 * n ∧ i < o i ∧ outM n k i = x := fun x => by simp [and_assoc]
      refine ⟨fun x hx => ?_, ?_, fun x hx => ?_⟩
      · rcases List.mem_append.1 hx with hx | hx
        · obtain ⟨i, h1, _, rfl⟩ := (hO x).1 hx; exact olt i h1
        · exact ((hC x).1 hx).1
      · rw [List.map_append, List.nodup_append]
        refine ⟨?_, ?_, ?_⟩
        · rw [List.map_map]
          refine List.pairwise_map.2 (List.Pairwise.imp_of_mem (fun {a b} ha hb hab e => ?_) (List.Pairwise.filter _ (List.nodup_range (n := 2 * n))))
          simp only [List.mem_filter, List.mem_range, decide_eq_true_eq] at ha hb
          have := (hkey a ha.1).2.2.2 b hb.1 (fun e => hab e.symm) e
          have := ho.inv a ha.1
          have h3 := hb.2
          rw [‹b = o a›, this] at h3
          have := ha.2
          omega
        · have e : C.map r = C := by
            conv => rhs; rw [← List.map_id C]
            exact List.map_congr_left fun x hx => ((hC x).1 hx).2.1
          rw [e]
          exact List.Pairwise.filter _ (List.Pairwise.filter _ List.nodup_range)
        · intro a ha b hb e
          obtain ⟨x, hx, rfl⟩ := List.mem_map.1 ha
          obtain ⟨y, hy, rfl⟩ := List.mem_map.1 hb
          obtain ⟨i, h1, _, rfl⟩ := (hO x).1 hx
          exact ((hC y).1 hy).2.2 i h1 e.symm
      · by_cases c : ∃ i, i < 2 * n ∧ r x = r (outM n k i)
        · obtain ⟨i, h1, h2⟩ := c
          obtain ⟨q1, q2, q3, _⟩ := hkey i h1
          by_cases h3 : i < o i
          · exact ⟨_, List.mem_append_left _ ((hO _).2 ⟨i, h1, h3, rfl⟩), h2.symm⟩
          · exact ⟨_, List.mem_append_left _ ((hO _).2 ⟨o i, q1, by rw [ho.inv i h1]; omega, rfl⟩), by rw [← q3, h2]⟩
        · have hx2 := hrr x hx
          exact ⟨r x, List.mem_append_right _ ((hC _).2 ⟨hx2.1, hx2.2, fun i hi e => c ⟨i, hi, by rw [← e, hx2.2]⟩⟩), hx2.2⟩
    have := T0.len this
    rw [this, List.length_append, List.length_map, mt_half ho]
  have hcl : C.length = c := by
    rw [rts_len, hcnt] at c1; omega
  have noQ : ∀ z, z ∈ C → ∀ q, ¬ Q q z := fun z hz q h => by
    obtain ⟨h1, h2, h3⟩ := (hC z).1 hz
    rcases h with ⟨_, j, j1, j2, _⟩ | ⟨h, _⟩
    · exact h3 j j1 j2
    · omega
  have CQ : ∀ z, z ∈ C → ∀ y, r' z = r' y → y < nk + n ∧ r y = r z := fun z hz y h => by
    obtain ⟨h1, h2, h3⟩ := (hC z).1 hz
    have : ∀ x y, Cn (ppK n f (k + 1)) x y → ((x < nk + n ∧ r x = r z) ↔ (y < nk + n ∧ r y = r z)) := fun x y h => by
      induction h with
      | @pair x y hp =>
        rcases List.mem_append.1 hp with hp | hp
        · have hl := ppK_lt k (fun j hj => hf j (by omega)) _ hp
          rw [e1, ← hnk] at hl
          have e : r x = r y := (cr x y).2 (.pair hp)
          rw [e]
          exact ⟨fun h => ⟨hl.2, h.2⟩, fun h => ⟨hl.1, h.2⟩⟩
        · obtain ⟨i, hi, h1, h2⟩ := mem_pSt.1 hp
          rw [e3] at h1 h2
          subst h1 h2
          have no : ∀ i, i < 2 * n → ¬ (nk + i < nk + n ∧ r (nk + i) = r z) := fun i hi h => by
            have eo : outM n k (n + i) = nk + i := by rw [hout, if_neg (by omega)]; omega
            exact h3 (n + i) (by omega) (by rw [eo]; exact h.2.symm)
          exact ⟨fun h => absurd h (no i hi), fun h => absurd h (no _ (hfk.lt i hi))⟩
      | refl x => exact Iff.rfl
      | symm _ ih => exact ih.symm
      | trans _ _ ih1 ih2 => exact ih1.trans ih2
    exact (this z y ((cr' _ _).1 h)).1 ⟨h1, rfl⟩
  have T' : Trv r' (· < nk + 2 * n) ((rts rp (3 * n)).map φ ++ C) := by
    refine ⟨fun x hx => ?_, ?_, fun x hx => ?_⟩
    · rcases List.mem_append.1 hx with hx | hx
      · obtain ⟨p, hp, rfl⟩ := List.mem_map.1 hx
        have hp : p < 3 * n := Tp.sub p hp
        by_cases c : p < n
        · rw [φ1 p c]; omega
        · rw [φ2 p c]; omega
      · have := ((hC x).1 hx).1; omega
    · rw [List.map_append, List.nodup_append]
      refine ⟨?_, ?_, ?_⟩
      · rw [List.map_map]
        have := Tp.nd
        unfold List.Nodup at *
        rw [List.pairwise_map] at *
        exact List.Pairwise.imp_of_mem (fun {a b} ha hb hab e => hab (B a b (Tp.sub a ha) (Tp.sub b hb) e)) this
      · refine List.pairwise_map.2 (List.Pairwise.imp_of_mem (fun {a b} ha hb hab e => hab ?_) (List.Pairwise.filter _ (List.Pairwise.filter _ (List.nodup_range (n := nk + n)))))
        have h1 := (CQ a ha b e).2
        rw [((hC a).1 ha).2.1, ((hC b).1 hb).2.1] at h1
        exact h1.symm
      · intro a ha b hb e
        obtain ⟨x, hx, rfl⟩ := List.mem_map.1 ha
        obtain ⟨y, hy, rfl⟩ := List.mem_map.1 hb
        obtain ⟨p, hp, rfl⟩ := List.mem_map.1 hx
        exact noQ y hy _ ((Qpair _ _ _ ((cr' _ _).1 e)).1 (Qφ p (Tp.sub p hp)))
    · have fromφ : ∀ p, p < 3 * n → r' (φ p) = r' x → ∃ y ∈ (rts rp (3 * n)).map φ ++ C, r' y = r' x := fun p hp e => by
        obtain ⟨y, hy, ey⟩ := Tp.all p hp
        exact ⟨φ y, List.mem_append_left _ (List.mem_map.2 ⟨y, hy, rfl⟩), by rw [F y p (Tp.sub y hy) hp ey, e]⟩
      by_cases c : x < nk + n
      · by_cases c2 : ∃ i, i < 2 * n ∧ r x = r (outM n k i)
        · obtain ⟨i, h1, h2⟩ := c2
          exact fromφ i (by omega) (by rw [φo i h1]; exact up h2.symm)
        · have hx2 := hrr x c
          exact ⟨r x, List.mem_append_right _ ((hC _).2 ⟨hx2.1, hx2.2, fun i hi e => c2 ⟨i, hi, by rw [← e, hx2.2]⟩⟩), up hx2.2⟩
      · exact fromφ (x - nk + n) (by omega) (by rw [φ2 _ (by omega), show nk + (x - nk + n - n) = x by omega])
  refine ⟨mt_of_key key', by rw [← hr']; exact key2, ?_⟩
  rw [← hr', e2, ← hnk, ← rts_len]
  have := (rts_trv (r := r') (N := nk + 2 * n) hrr').len T'
  rw [this, List.length_append, List.length_map, rts_len, cnt', hcl]
  omega
end Go.Proofs.Ytdlpbpfcgjgppaa
