/- Facts and contracts that the claim uses. No condition of its own. -/
import Derived.Test.YtkmkcbkfakoomaaGRingCoursesAC
set_option linter.unusedVariables false
set_option linter.unusedSimpArgs false
namespace Go.Proofs.Ytkmkcbkfakoomaa
def bt (c i : Nat) : Bool := c / 2 ^ i % 2 == 1
def swpI (l : List Int) (i : Nat) : List Int := (l.set i (l.getD (i + 1) 0)).set (i + 1) (l.getD i 0)
def rgP (row : List Int) (c : Nat) : Nat → List Int
  | 0 => row
  | i + 1 => if bt c i then swpI (rgP row c i) i else rgP row c i
def rgR (row : List Int) (c : Nat) : Nat → List Int
  | 0 => row
  | i + 1 => if bt c i then ((rgR row c i).set i (row.getD (i + 1) 0)).set (i + 1) (row.getD i 0) else rgR row c i
theorem rgP_len (row : List Int) (c : Nat) : ∀ i, (rgP row c i).length = row.length
  | 0 => rfl
  | i + 1 => by unfold rgP; split <;> simp [swpI, rgP_len row c i]
theorem rgR_len (row : List Int) (c : Nat) : ∀ i, (rgR row c i).length = row.length
  | 0 => rfl
  | i + 1 => by unfold rgR; split <;> simp [rgR_len row c i]
theorem getD_set_other {l : List Int} {i j : Nat} {v : Int} (h : j ≠ i) : (l.set i v).getD j 0 = l.getD j 0 := by
  simp only [List.getD, List.getElem?_set_ne (Ne.symm h)]
def noAdj (c : Nat) : Prop := ∀ i, bt c i = true → bt c (i + 1) = false
theorem rg_inv {row : List Int} {c : Nat} (hc : noAdj c) : ∀ i, rgP row c i = rgR row c i ∧ (∀ j, i < j → (rgP row c i).getD j 0 = row.getD j 0) ∧ ((∀ k, k + 1 = i → bt c k = false) → (rgP row c i).getD i 0 = row.getD i 0)
  | 0 => ⟨rfl, fun _ _ => rfl, fun _ => rfl⟩
  | i + 1 => by
    obtain ⟨h1, h2, h3⟩ := rg_inv hc i
    by_cases hb : bt c i = true
    · have e0 : (rgP row c i).getD i 0 = row.getD i 0 := h3 (fun k hk => by
        cases hk2 : bt c k with
        | false => rfl
        | true => have := hc k hk2; rw [hk, hb] at this; cases this)
      have e1 : (rgP row c i).getD (i + 1) 0 = row.getD (i + 1) 0 := h2 _ (by omega)
      refine ⟨?_, fun j hj => ?_, fun h => ?_⟩
      · simp only [rgP, rgR, hb, if_true, swpI]
        rw [e0, e1, h1]
      · simp only [rgP, hb, if_true, swpI]
        rw [getD_set_other (by omega), getD_set_other (by omega), h2 j (by omega)]
      · rw [h i rfl] at hb; cases hb
    · have hb' : bt c i = false := by simpa using hb
      refine ⟨?_, fun j hj => ?_, fun _ => ?_⟩
      · simp only [rgP, rgR, hb', h1]; rfl
      · simp only [rgP, hb']; exact h2 j (by omega)
      · simp only [rgP, hb']; exact h2 _ (by omega)
def rng (row : List Int) (c : Nat) : List Int := rgP row c (row.length - 1)
theorem rng_ref {row : List Int} {c : Nat} (hc : noAdj c) : rgR row c (row.length - 1) = rng row c := (rg_inv hc _).1.symm
@[simp] theorem rng_len (row : List Int) (c : Nat) : (rng row c).length = row.length := rgP_len _ _ _
def swF (F : Nat → Nat) (i : Nat) : Nat → Nat := fun j => if j = i then F (i + 1) else if j = i + 1 then F i else F j
theorem swp_tab {n i : Nat} (F : Nat → Nat) (h : i + 1 < n) : swpI (tabN n F) i = tabN n (swF F i) := by
  unfold swpI
  rw [tabN_get h, tabN_get (show i < n by omega)]
  apply List.ext_getElem
  · simp
  · intro j h1 h2
    have hj : j < n := by simpa using h2
    simp only [List.getElem_set, tabN, List.getElem_map, List.getElem_range, swF]
    by_cases c1 : i + 1 = j
    · rw [if_pos c1, if_neg (by omega), if_pos c1.symm]
    · rw [if_neg c1]
      by_cases c2 : i = j
      · rw [if_pos c2, if_pos c2.symm]
      · rw [if_neg c2, if_neg (fun e => c2 e.symm), if_neg (fun e => c1 e.symm)]
theorem swF_pe {n i : Nat} {F : Nat → Nat} (hF : Pe n F) (h : i + 1 < n) : Pe n (swF F i) := by
  refine ⟨fun j hj => ?_, fun j k hj hk e => ?_, fun j hj => ?_⟩
  · unfold swF
    split
    · exact hF.lt _ h
    · split
      · exact hF.lt _ (by omega)
      · exact hF.lt _ hj
  · unfold swF at e
    have hi := @hF.inj
    by_cases a1 : j = i
    · rw [if_pos a1] at e
      by_cases b1 : k = i
      · omega
      · rw [if_neg b1] at e
        by_cases b2 : k = i + 1
        · rw [if_pos b2] at e
          have := hi _ _ (by omega) (by omega) e; omega
        · rw [if_neg b2] at e
          have := hi _ _ (by omega) hk e; omega
    · rw [if_neg a1] at e
      by_cases a2 : j = i + 1
      · rw [if_pos a2] at e
        by_cases b1 : k = i
        · rw [if_pos b1] at e
          have := hi _ _ (by omega) (by omega) e; omega
        · rw [if_neg b1] at e
          by_cases b2 : k = i + 1
          · omega
          · rw [if_neg b2] at e
            have := hi _ _ (by omega) hk e; omega
      · rw [if_neg a2] at e
        by_cases b1 : k = i
        · rw [if_pos b1] at e
          have := hi _ _ hj (by omega) e; omega
        · rw [if_neg b1] at e
          by_cases b2 : k = i + 1
          · rw [if_pos b2] at e
            have := hi _ _ hj (by omega) e; omega
          · rw [if_neg b2] at e
            exact hi _ _ hj hk e
  · unfold swF
    rw [if_neg (by omega), if_neg (by omega)]
    exact hF.out _ hj
def Rw (n : Nat) (l : List Int) : Prop := ∃ F, Pe n F ∧ l = tabN n F
theorem Rw.len {n : Nat} {l : List Int} (h : Rw n l) : l.length = n := by obtain ⟨F, _, rfl⟩ := h; simp
theorem Rw.rgP {n : Nat} {l : List Int} (h : Rw n l) (c : Nat) : ∀ i, i + 1 ≤ n → Rw n (rgP l c i)
  | 0, _ => h
  | i + 1, hi => by
    obtain ⟨F, hF, e⟩ := Rw.rgP h c i (by omega)
    unfold Go.Proofs.Ytkmkcbkfakoomaa.rgP
    split
    · exact ⟨swF F i, swF_pe hF (by omega), by rw [e, swp_tab F (by omega)]⟩
    · exact ⟨F, hF, e⟩
theorem Rw.rng {n : Nat} {l : List Int} (h : Rw n l) (hn : 1 ≤ n) (c : Nat) : Rw n (rng l c) := by
  unfold Go.Proofs.Ytkmkcbkfakoomaa.rng
  rw [h.len]
  exact h.rgP c _ (by omega)
theorem Rw.one (n : Nat) : Rw n (tabN n id) := ⟨id, Pe.one n, rfl⟩
def rowN (n : Nat) (l : List Int) : Nat → List Int
  | 0 => tabN n id
  | k + 1 => rng (rowN n l k) (l.getD k 0).toNat
theorem rowN_rw {n : Nat} (l : List Int) (hn : 1 ≤ n) : ∀ k, Rw n (rowN n l k)
  | 0 => Rw.one n
  | k + 1 => (rowN_rw l hn k).rng hn _
def rowsL (n : Nat) (l : List Int) (k : Nat) : List (List Int) := (List.range (k + 1)).map (rowN n l)
@[simp] theorem rowsL_len (n : Nat) (l : List Int) (k : Nat) : (rowsL n l k).length = k + 1 := by simp [rowsL]
theorem rowsL_succ (n : Nat) (l : List Int) (k : Nat) : rowsL n l (k + 1) = rowsL n l k ++ [rowN n l (k + 1)] := by
  simp only [rowsL, List.range_succ (n := k + 1), List.map_append, List.map_cons, List.map_nil]
def noAd (c : Nat) : Bool := (List.range 8).all fun i => !(bt c i && bt c (i + 1))
def gdC (n : Nat) (c : Int) : Prop := 0 ≤ c ∧ c.toNat < 2 ^ (n - 1) ∧ noAd c.toNat = true
instance (n : Nat) (c : Int) : Decidable (gdC n c) := by unfold gdC; exact inferInstance
theorem bt_big {c i : Nat} (h : c < 2 ^ i) : bt c i = false := by
  unfold bt
  rw [Nat.div_eq_of_lt h]; rfl
theorem gdC_adj {n : Nat} {c : Int} (h : gdC n c) (hn : n ≤ 7) : noAdj c.toNat := by
  obtain ⟨_, h1, h2⟩ := h
  intro i hi
  have hlt : c.toNat < 64 := Nat.lt_of_lt_of_le h1 (by rw [show (64 : Nat) = 2 ^ 6 from rfl]; exact Nat.pow_le_pow_right (by decide) (by omega))
  by_cases h8 : i < 8
  · have := List.all_eq_true.1 h2 i (List.mem_range.2 h8)
    rw [hi] at this
    simpa using this
  · refine bt_big (Nat.lt_of_lt_of_le hlt ?_)
    rw [show (64 : Nat) = 2 ^ 6 from rfl]; exact Nat.pow_le_pow_right (by decide) (by omega)
theorem gdC_lt {n : Nat} {c : Int} (h : gdC n c) (hn : n ≤ 7) : 0 ≤ c ∧ c < 64 := by
  obtain ⟨h0, h1, _⟩ := h
  have hlt : c.toNat < 64 := Nat.lt_of_lt_of_le h1 (by rw [show (64 : Nat) = 2 ^ 6 from rfl]; exact Nat.pow_le_pow_right (by decide) (by omega))
  omega
def chE (n : Int) (l : List Int) : Int := if n < 1 ∨ 7 < n then 1 else if 5040 < l.length then 2 else if ∀ x ∈ l, gdC n.toNat x then 0 else 3
theorem chE_ok {n : Int} {l : List Int} (h : chE n l = 0) : 1 ≤ n ∧ n ≤ 7 ∧ l.length ≤ 5040 ∧ ∀ x ∈ l, gdC n.toNat x := by
  unfold chE at h
  split at h
  · cases h
  · split at h
    · cases h
    · split at h
      · exact ⟨by omega, by omega, by omega, by assumption⟩
      · cases h
def chgL : Nat → List Int
  | 0 => [0]
  | 1 => [0]
  | n + 2 => chgL (n + 1) ++ (chgL n).map (fun c : Int => c + ((2 ^ n : Nat) : Int))
theorem chgL_dec : ∀ n : Fin 8, 1 ≤ n.val → (∀ c ∈ chgL n.val, gdC n.val c) ∧ ∀ c : Fin 64, gdC n.val (c.val : Int) → (c.val : Int) ∈ chgL n.val := by decide +kernel
theorem mem_chg {n : Nat} (h1 : 1 ≤ n) (h2 : n ≤ 7) (c : Int) : c ∈ chgL n ↔ gdC n c := by
  have := chgL_dec ⟨n, by omega⟩ h1
  refine ⟨this.1 c, fun h => ?_⟩
  have hb := gdC_lt h h2
  have := this.2 ⟨c.toNat, by omega⟩ (by rw [show ((c.toNat : Nat) : Int) = c by omega]; exact h)
  rw [show ((c.toNat : Nat) : Int) = c by omega] at this
  exact this
def exB (n j : Nat) (c : Int) : List Int := if j % 2 = 0 then (List.range (n - 1)).map (fun i => ((2 ^ (n - 2 - i) : Nat) : Int)) ++ [2 * c] else (List.range (n - 1)).map (fun i => ((2 ^ i : Nat) : Int)) ++ [c]
def exS (n : Nat) (l : List Int) : Nat → List Int
  | 0 => []
  | j + 1 => exS n l j ++ exB n j (l.getD j 0)
def exL : Nat → List Int
  | 0 => []
  | 1 => []
  | 2 => [1, 1]
  | n + 3 => exS (n + 3) (exL (n + 2)) (exL (n + 2)).length
theorem exB_len {n j : Nat} {c : Int} (hn : 1 ≤ n) : (exB n j c).length = n := by unfold exB; split <;> simp <;> omega
theorem exS_len {n : Nat} {l : List Int} (hn : 1 ≤ n) : ∀ j, (exS n l j).length = j * n
  | 0 => by simp [exS]
  | j + 1 => by rw [exS, List.length_append, exS_len hn j, exB_len hn, Nat.succ_mul]
theorem exS_bd {n : Nat} {l : List Int} (hl : ∀ x ∈ l, 0 ≤ x ∧ x < 2 ^ (n - 2)) (hn : 2 ≤ n) : ∀ j, ∀ x ∈ exS n l j, 0 ≤ x ∧ x < 2 ^ (n - 1)
  | 0 => by simp [exS]
  | j + 1 => by
    intro x hx
    rw [exS, List.mem_append] at hx
    rcases hx with hx | hx
    · exact exS_bd hl hn j x hx
    · have hg : 0 ≤ l.getD j 0 ∧ l.getD j 0 < 2 ^ (n - 2) := by
        by_cases hj : j < l.length
        · rw [getD_lt 0 hj]; exact hl _ (List.getElem_mem hj)
        · rw [List.getD, List.getElem?_eq_none (by omega)]
          exact ⟨Int.le_refl _, Int.pow_pos (by decide)⟩
      have e2 : (2 : Int) ^ (n - 1) = 2 * 2 ^ (n - 2) := by rw [show n - 1 = (n - 2) + 1 by omega, Int.pow_succ, Int.mul_comm]
      have hp : ∀ k, k ≤ n - 2 → ((2 ^ k : Nat) : Int) < 2 ^ (n - 1) := fun k hk => by
        have h1 : (2 : Nat) ^ k ≤ 2 ^ (n - 2) := Nat.pow_le_pow_right (by decide) hk
        have h2 : ((2 ^ (n - 2) : Nat) : Int) = (2 : Int) ^ (n - 2) := by simp
        have h3 : 0 < (2 : Nat) ^ (n - 2) := Nat.pow_pos (by decide)
        omega
      unfold exB at hx
      split at hx
      · rw [List.mem_append] at hx
        rcases hx with hx | hx
        · obtain ⟨i, hi, rfl⟩ := List.mem_map.1 hx
          exact ⟨Int.natCast_nonneg _, hp _ (by omega)⟩
        · obtain rfl : x = 2 * l.getD j 0 := by simpa using hx
          omega
      · rw [List.mem_append] at hx
        rcases hx with hx | hx
        · obtain ⟨i, hi, rfl⟩ := List.mem_map.1 hx
          have := List.mem_range.1 hi
          exact ⟨Int.natCast_nonneg _, hp _ (by omega)⟩
        · obtain rfl : x = l.getD j 0 := by simpa using hx
          omega
theorem exL_ok : ∀ n, 2 ≤ n → (exL n).length = fac n ∧ ∀ x ∈ exL n, 0 ≤ x ∧ x < 2 ^ (n - 1)
  | 0, h => by omega
  | 1, h => by omega
  | 2, _ => ⟨rfl, by decide⟩
  | n + 3, _ => by
    obtain ⟨h1, h2⟩ := exL_ok (n + 2) (by omega)
    refine ⟨?_, exS_bd (fun x hx => h2 x hx) (by omega) _⟩
    show (exS (n + 3) _ _).length = _
    rw [exS_len (by omega), h1]
    show fac (n + 2) * (n + 3) = (n + 3) * fac (n + 2)
    exact Nat.mul_comm _ _
theorem fac_bd {n : Nat} (h : n ≤ 7) : fac n ≤ 5040 := by
  have : ∀ k : Fin 8, fac k.val ≤ 5040 := by decide
  exact this ⟨n, by omega⟩
end Go.Proofs.Ytkmkcbkfakoomaa
