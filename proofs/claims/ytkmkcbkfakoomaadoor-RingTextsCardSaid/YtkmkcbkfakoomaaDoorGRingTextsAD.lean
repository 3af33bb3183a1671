/- Facts and contracts that the claim uses. No condition of its own. -/
import Derived.Test.YtkmkcbkfakoomaaDoorGRingTextsAC
set_option linter.unusedVariables false
set_option linter.unusedSimpArgs false
namespace Go.Proofs.YtkmkcbkfakoomaaDoor
def bt (c i : Nat) : Bool := c / 2 ^ i % 2 == 1
def swpI (l : List Int) (i : Nat) : List Int := (l.set i (l.getD (i + 1) 0)).set (i + 1) (l.getD i 0)
def rgP (row : List Int) (c : Nat) : Nat → List Int
  | 0 => row
  | i + 1 => if bt c i then swpI (rgP row c i) i else rgP row c i
theorem rgP_len (row : List Int) (c : Nat) : ∀ i, (rgP row c i).length = row.length
  | 0 => rfl
  | i + 1 => by unfold rgP; split <;> simp [swpI, rgP_len row c i]
def rng (row : List Int) (c : Nat) : List Int := rgP row c (row.length - 1)
@[simp] theorem rng_len (row : List Int) (c : Nat) : (rng row c).length = row.length := rgP_len _ _ _
def swF (F : Nat → Nat) (i : Nat) : Nat → Nat := fun j => if j = i then F (i + 1) else if j = i + 1 then F i else F j
theorem swp_tab {n i : Nat} (F : Nat → Nat) (h : i + 1 < n) : swpI (tabN n F) i = tabN n (swF F i) := by
  unfold swpI
  rw [tabN_get h, tabN_get (show i < n by omega)]
  apply List.ext_getElem
  · simp
  · intro j h1 h2
    have hj : j < n := by simpa using h2
    simp only [List.getElem_set, tabN, List.getElem_map, List.getElem_range, swF]
    by_cases c1 : i + 1 = j
    · rw [if_pos c1, if_neg (by omega), if_pos c1.symm]
    · rw [if_neg c1]
      by_cases c2 : i = j
      · rw [if_pos c2, if_pos c2.symm]
      · rw [if_neg c2, if_neg (fun e => c2 e.symm), if_neg (fun e => c1 e.symm)]
theorem swF_pe {n i : Nat} {F : Nat → Nat} (hF : Pe n F) (h : i + 1 < n) : Pe n (swF F i) := by
  refine ⟨fun j hj => ?_, fun j k hj hk e => ?_, fun j hj => ?_⟩
  · unfold swF
    split
    · exact hF.lt _ h
    · split
      · exact hF.lt _ (by omega)
      · exact hF.lt _ hj
  · unfold swF at e
    have hi := @hF.inj
    by_cases a1 : j = i
    · rw [if_pos a1] at e
      by_cases b1 : k = i
      · omega
      · rw [if_neg b1] at e
        by_cases b2 : k = i + 1
        · rw [if_pos b2] at e
          have := hi _ _ (by omega) (by omega) e; omega
        · rw [if_neg b2] at e
          have := hi _ _ (by omega) hk e; omega
    · rw [if_neg a1] at e
      by_cases a2 : j = i + 1
      · rw [if_pos a2] at e
        by_cases b1 : k = i
        · rw [if_pos b1] at e
          have := hi _ _ (by omega) (by omega) e; omega
        · rw [if_neg b1] at e
          by_cases b2 : k = i + 1
          · omega
          · rw [if_neg b2] at e
            have := hi _ _ (by omega) hk e; omega
      · rw [if_neg a2] at e
        by_cases b1 : k = i
        · rw [if_pos b1] at e
          have := hi _ _ hj (by omega) e; omega
        · rw [if_neg b1] at e
          by_cases b2 : k = i + 1
          · rw [if_pos b2] at e
            have := hi _ _ hj (by omega) e; omega
          · rw [if_neg b2] at e
            exact hi _ _ hj hk e
  · unfold swF
    rw [if_neg (by omega), if_neg (by omega)]
    exact hF.out _ hj
def Rw (n : Nat) (l : List Int) : Prop := ∃ F, Pe n F ∧ l = tabN n F
theorem Rw.len {n : Nat} {l : List Int} (h : Rw n l) : l.length = n := by obtain ⟨F, _, rfl⟩ := h; simp
theorem Rw.rgP {n : Nat} {l : List Int} (h : Rw n l) (c : Nat) : ∀ i, i + 1 ≤ n → Rw n (rgP l c i)
  | 0, _ => h
  | i + 1, hi => by
    obtain ⟨F, hF, e⟩ := Rw.rgP h c i (by omega)
    unfold Go.Proofs.YtkmkcbkfakoomaaDoor.rgP
    split
    · exact ⟨swF F i, swF_pe hF (by omega), by rw [e, swp_tab F (by omega)]⟩
    · exact ⟨F, hF, e⟩
theorem Rw.rng {n : Nat} {l : List Int} (h : Rw n l) (hn : 1 ≤ n) (c : Nat) : Rw n (rng l c) := by
  unfold Go.Proofs.YtkmkcbkfakoomaaDoor.rng
  rw [h.len]
  exact h.rgP c _ (by omega)
theorem Rw.one (n : Nat) : Rw n (tabN n id) := ⟨id, Pe.one n, rfl⟩
def rowN (n : Nat) (l : List Int) : Nat → List Int
  | 0 => tabN n id
  | k + 1 => rng (rowN n l k) (l.getD k 0).toNat
def rowsL (n : Nat) (l : List Int) (k : Nat) : List (List Int) := (List.range (k + 1)).map (rowN n l)
@[simp] theorem rowsL_len (n : Nat) (l : List Int) (k : Nat) : (rowsL n l k).length = k + 1 := by simp [rowsL]
theorem rowsL_succ (n : Nat) (l : List Int) (k : Nat) : rowsL n l (k + 1) = rowsL n l k ++ [rowN n l (k + 1)] := by
  simp only [rowsL, List.range_succ (n := k + 1), List.map_append, List.map_cons, List.map_nil]
def noAd (c : Nat) : Bool := (List.range 8).all fun i => !(bt c i && bt c (i + 1))
def gdC (n : Nat) (c : Int) : Prop := 0 ≤ c ∧ c.toNat < 2 ^ (n - 1) ∧ noAd c.toNat = true
instance (n : Nat) (c : Int) : Decidable (gdC n c) := by unfold gdC; exact inferInstance
theorem gdC_lt {n : Nat} {c : Int} (h : gdC n c) (hn : n ≤ 7) : 0 ≤ c ∧ c < 64 := by
  obtain ⟨h0, h1, _⟩ := h
  have hlt : c.toNat < 64 := Nat.lt_of_lt_of_le h1 (by rw [show (64 : Nat) = 2 ^ 6 from rfl]; exact Nat.pow_le_pow_right (by decide) (by omega))
  omega
def chE (n : Int) (l : List Int) : Int := if n < 1 ∨ 7 < n then 1 else if 5040 < l.length then 2 else if ∀ x ∈ l, gdC n.toNat x then 0 else 3
theorem chE_ok {n : Int} {l : List Int} (h : chE n l = 0) : 1 ≤ n ∧ n ≤ 7 ∧ l.length ≤ 5040 ∧ ∀ x ∈ l, gdC n.toNat x := by
  unfold chE at h
  split at h
  · cases h
  · split at h
    · cases h
    · split at h
      · exact ⟨by omega, by omega, by omega, by assumption⟩
      · cases h
def chgL : Nat → List Int
  | 0 => [0]
  | 1 => [0]
  | n + 2 => chgL (n + 1) ++ (chgL n).map (fun c : Int => c + ((2 ^ n : Nat) : Int))
theorem chgL_dec : ∀ n : Fin 8, 1 ≤ n.val → (∀ c ∈ chgL n.val, gdC n.val c) ∧ ∀ c : Fin 64, gdC n.val (c.val : Int) → (c.val : Int) ∈ chgL n.val := by decide +kernel
theorem mem_chg {n : Nat} (h1 : 1 ≤ n) (h2 : n ≤ 7) (c : Int) : c ∈ chgL n ↔ gdC n c := by
  have := chgL_dec ⟨n, by omega⟩ h1
  refine ⟨this.1 c, fun h => ?_⟩
  have hb := gdC_lt h h2
  have := this.2 ⟨c.toNat, by omega⟩ (by rw [show ((c.toNat : Nat) : Int) = c by omega]; exact h)
  rw [show ((c.toNat : Nat) : Int) = c by omega] at this
  exact this
end Go.Proofs.YtkmkcbkfakoomaaDoor
