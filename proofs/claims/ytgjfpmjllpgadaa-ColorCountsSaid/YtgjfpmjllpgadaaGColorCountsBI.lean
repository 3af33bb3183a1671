/- What divides all minors of a matrix: masks and ascending lists; the greatest common divisors by sizes. Plain facts: nothing of the program is here. -/
import Derived.Test.YtgjfpmjllpgadaaGColorCountsBH
import Derived.Test.YtgjfpmjllpgadaaGColorCountsAL
set_option linter.unusedVariables false
set_option linter.unusedSimpArgs false
namespace Go.Proofs.Ytgjfpmjllpgadaa

/-- an ascending list of q numbers below n -/
def Sub (n q : Nat) (l : List Nat) : Prop := Asc l ∧ (∀ x ∈ l, x < n) ∧ l.length = q
theorem asc_ext : ∀ {a b : List Nat}, Asc a → Asc b → (∀ x, x ∈ a ↔ x ∈ b) → a = b
  | [], [], _, _, _ => rfl
  | [], y :: b, _, _, h => by have := (h y).2 (by simp); cases this
  | x :: a, [], _, _, h => by have := (h x).1 (by simp); cases this
  | x :: a, y :: b, ha, hb, h => by
    have a1 := List.pairwise_cons.1 ha
    have b1 := List.pairwise_cons.1 hb
    have e : x = y := by
      rcases List.mem_cons.1 ((h x).1 (by simp)) with e | e
      · exact e
      · rcases List.mem_cons.1 ((h y).2 (by simp)) with e2 | e2
        · exact e2.symm
        · have := a1.1 y e2; have := b1.1 x e; omega
    subst e
    congr 1
    refine asc_ext a1.2 b1.2 (fun z => ⟨fun hz => ?_, fun hz => ?_⟩)
    · rcases List.mem_cons.1 ((h z).1 (by simp [hz])) with e | e
      · have := a1.1 z hz; omega
      · exact e
    · rcases List.mem_cons.1 ((h z).2 (by simp [hz])) with e | e
      · have := b1.1 z hz; omega
      · exact e
theorem bit_add {b n i : Nat} (h : i < n) : (b + 2 ^ n) / 2 ^ i % 2 = b / 2 ^ i % 2 := by
  have e : 2 ^ n = 2 ^ i * (2 * 2 ^ (n - i - 1)) := by
    rw [← Nat.pow_succ', ← Nat.pow_add]
    congr 1; omega
  rw [e, Nat.add_mul_div_left _ _ (Nat.pow_pos (by decide))]
  omega
theorem mask_ex (p : Nat → Bool) : ∀ n, ∃ b, b < 2 ^ n ∧ ∀ i, i < n → (b / 2 ^ i % 2 = 1 ↔ p i = true)
  | 0 => ⟨0, by simp, fun i hi => by omega⟩
  | n + 1 => by
    obtain ⟨b, h1, h2⟩ := mask_ex p n
    have hp : 2 ^ (n + 1) = 2 ^ n + 2 ^ n := by rw [Nat.pow_succ]; omega
    cases hc : p n with
    | false =>
      refine ⟨b, by omega, fun i hi => ?_⟩
      by_cases e : i = n
      · subst e; rw [hc, Nat.div_eq_of_lt h1]; simp
      · exact h2 i (by omega)
    | true =>
      refine ⟨b + 2 ^ n, by omega, fun i hi => ?_⟩
      by_cases e : i = n
      · subst e
        rw [hc, Nat.add_div_right _ (Nat.pow_pos (by decide)), Nat.div_eq_of_lt h1]; simp
      · rw [bit_add (show i < n by omega)]; exact h2 i (by omega)
theorem sub_mask {n q : Nat} {l : List Nat} (h : Sub n q l) : ∃ b, b < 2 ^ n ∧ bitsL b n = l := by
  obtain ⟨b, h1, h2⟩ := mask_ex (fun i => l.contains i) n
  refine ⟨b, h1, asc_ext (asc_bits b n) h.1 (fun x => ?_)⟩
  rw [mem_bits]
  constructor
  · rintro ⟨k1, k2⟩
    simpa using (h2 x k1).1 k2
  · intro k
    exact ⟨h.2.1 x k, (h2 x (h.2.1 x k)).2 (by simpa using k)⟩
theorem bits_sub (b n : Nat) : Sub n (bitsL b n).length (bitsL b n) := ⟨asc_bits b n, fun _ hx => (mem_bits.1 hx).1, rfl⟩
theorem bits_below {b n i : Nat} (h : b < 2 ^ n) (hb : b / 2 ^ i % 2 = 1) : i < n := by
  apply Classical.byContradiction; intro hc
  have : 2 ^ n ≤ 2 ^ i := Nat.pow_le_pow_right (by decide) (by omega)
  rw [Nat.div_eq_of_lt (by omega)] at hb
  cases hb
theorem bits_6 {b n : Nat} (h : b < 2 ^ n) (hn : n ≤ 6) : bitsL b 6 = bitsL b n :=
  asc_ext (asc_bits b 6) (asc_bits b n) (fun x => by
    rw [mem_bits, mem_bits]
    exact ⟨fun ⟨_, k⟩ => ⟨bits_below h k, k⟩, fun ⟨k1, k⟩ => ⟨by omega, k⟩⟩)
theorem two_le {n : Nat} (h : n ≤ 6) : 2 ^ n ≤ 64 := Nat.pow_le_pow_right (n := 2) (by decide) h

/-- D says for each size what divides all minors of that size -/
def Dv (m : List (List Int)) (n k : Nat) (D : Nat → Nat) : Prop := ∀ (q g : Nat), g ∣ D q ↔ ∀ rs cs, Sub n q rs → Sub k q cs → (g : Int) ∣ lap (ent m) rs cs
theorem Dv.uniq {m : List (List Int)} {n k : Nat} {D E : Nat → Nat} (h1 : Dv m n k D) (h2 : Dv m n k E) (q : Nat) : D q = E q :=
  Nat.dvd_antisymm ((h2 q _).2 ((h1 q _).1 (Nat.dvd_refl _))) ((h1 q _).2 ((h2 q _).1 (Nat.dvd_refl _)))
theorem Dv.zero {m : List (List Int)} {n k : Nat} {D : Nat → Nat} (h : Dv m n k D) {q : Nat} (h0 : D q = 0) : D (q + 1) = 0 := by
  have hz : ∀ rs cs, Sub n q rs → Sub k q cs → lap (ent m) rs cs = 0 := fun rs cs h1 h2 => by
    have := (h q 0).1 (by rw [h0]; exact Nat.dvd_refl _) rs cs h1 h2
    obtain ⟨c, hc⟩ := this
    rw [hc]; simp
  have h2 : 0 ∣ D (q + 1) := by
    refine (h (q + 1) 0).2 (fun rs cs h1 h2 => ?_)
    obtain ⟨a1, a2, a3⟩ := h1
    obtain ⟨b1, b2, b3⟩ := h2
    cases rs with
    | nil => cases a3
    | cons r rs =>
      have hr : Sub n q rs := ⟨(List.pairwise_cons.1 a1).2, fun x hx => a2 x (by simp [hx]), by simpa using a3⟩
      have := alts_bd2 (F := fun c rest => ent m r c * lap (ent m) rs rest) (B := 0) (by decide) cs 0 [] (fun u x v e => by
        have e' : cs = u ++ x :: v := e
        subst e'
        have hs : Sub k q (u ++ v) := by
          refine ⟨?_, fun y hy => b2 y (by rcases List.mem_append.1 hy with h1 | h1 <;> simp [h1]), by simp at b3 ⊢; omega⟩
          exact List.Pairwise.sublist (List.Sublist.append (List.Sublist.refl u) (List.sublist_cons_self x v)) b1
        rw [hz rs (u ++ v) hr hs, Int.mul_zero]
        exact ⟨by decide, by decide⟩)
      rw [show lap (ent m) (r :: rs) cs = 0 by
        show alts (fun c rest => ent m r c * lap (ent m) rs rest) 0 [] cs = 0
        rw [Int.mul_zero] at this
        omega]
      exact Int.dvd_zero _
  exact Nat.eq_zero_of_zero_dvd h2

/-! ### by masks -/
structure MInv (m : List (List Int)) (n k R0 C0 : Nat) (f : Nat → Nat) : Prop where
  dv : ∀ (q g : Nat), g ∣ f q ↔ ∀ R C, R < 2 ^ n → C < 2 ^ k → (R < R0 ∨ R = R0 ∧ C < C0) → (bitsL R n).length = q → (bitsL C k).length = q → (g : Int) ∣ lap (ent m) (bitsL R n) (bitsL C k)
  bd : ∀ q, f q ≤ 50000000000000000
def setF (f : Nat → Nat) (q v : Nat) : Nat → Nat := fun j => if j = q then v else f j
theorem MInv.start (m : List (List Int)) (n k : Nat) : MInv m n k 0 0 (fun _ => 0) :=
  ⟨fun q g => ⟨fun _ R C _ _ h => by omega, fun _ => Nat.dvd_zero _⟩, fun _ => by decide⟩
theorem MInv.row {m : List (List Int)} {n k R : Nat} {f : Nat → Nat} (h : MInv m n k R (2 ^ k) f) : MInv m n k (R + 1) 0 f :=
  ⟨fun q g => (h.dv q g).trans ⟨fun hh R' C' h1 h2 h3 => hh R' C' h1 h2 (by omega), fun hh R' C' h1 h2 h3 => hh R' C' h1 h2 (by omega)⟩, h.bd⟩
theorem MInv.skip {m : List (List Int)} {n k R C : Nat} {f : Nat → Nat} (h : MInv m n k R C f) (hne : (bitsL R n).length ≠ (bitsL C k).length) : MInv m n k R (C + 1) f := by
  refine ⟨fun q g => (h.dv q g).trans ⟨fun hh R' C' h1 h2 h3 h4 h5 => ?_, fun hh R' C' h1 h2 h3 => hh R' C' h1 h2 (by omega)⟩, h.bd⟩
  by_cases e : R' = R ∧ C' = C
  · obtain ⟨rfl, rfl⟩ := e
    exact absurd (h4.trans h5.symm) hne
  · exact hh R' C' h1 h2 (by omega) h4 h5
theorem MInv.take {m : List (List Int)} {n k R C q0 : Nat} {f : Nat → Nat} (h : MInv m n k R C f) (hR : R < 2 ^ n) (hC : C < 2 ^ k) (h1 : (bitsL R n).length = q0) (h2 : (bitsL C k).length = q0)
    (hb : (lap (ent m) (bitsL R n) (bitsL C k)).natAbs ≤ 50000000000000000) : MInv m n k R (C + 1) (setF f q0 (Int.gcd (f q0) (lap (ent m) (bitsL R n) (bitsL C k)))) := by
  refine ⟨fun q g => ?_, fun q => ?_⟩
  · unfold setF
    by_cases e : q = q0
    · subst e
      rw [if_pos rfl]
      unfold Int.gcd
      rw [Nat.dvd_gcd_iff, Int.natAbs_natCast, h.dv q g, ← Int.ofNat_dvd_left]
      constructor
      · rintro ⟨k1, k2⟩ R' C' g1 g2 g3 g4 g5
        by_cases e : R' = R ∧ C' = C
        · obtain ⟨rfl, rfl⟩ := e; exact k2
        · exact k1 R' C' g1 g2 (by omega) g4 g5
      · exact fun hh => ⟨fun R' C' g1 g2 g3 g4 g5 => hh R' C' g1 g2 (by omega) g4 g5, hh R C hR hC (by omega) h1 h2⟩
    · rw [if_neg e, h.dv q g]
      constructor
      · intro k1 R' C' g1 g2 g3 g4 g5
        by_cases e2 : R' = R ∧ C' = C
        · obtain ⟨rfl, rfl⟩ := e2; exact absurd (g4.symm.trans h1) e
        · exact k1 R' C' g1 g2 (by omega) g4 g5
      · exact fun hh R' C' g1 g2 g3 g4 g5 => hh R' C' g1 g2 (by omega) g4 g5
  · unfold setF
    split
    · unfold Int.gcd
      rw [Int.natAbs_natCast]
      by_cases e : f q0 = 0
      · rw [e, Nat.gcd_zero_left]; exact hb
      · exact Nat.le_trans (Nat.gcd_le_left _ (by omega)) (h.bd q0)
    · exact h.bd q
theorem MInv.dvs {m : List (List Int)} {n k : Nat} {f : Nat → Nat} (h : MInv m n k (2 ^ n) 0 f) : Dv m n k f := fun q g => by
  rw [h.dv q g]
  constructor
  · intro hh rs cs h1 h2
    obtain ⟨R, r1, r2⟩ := sub_mask h1
    obtain ⟨C, c1, c2⟩ := sub_mask h2
    have := hh R C r1 c1 (.inl r1) (by rw [r2]; exact h1.2.2) (by rw [c2]; exact h2.2.2)
    rwa [r2, c2] at this
  · intro hh R C h1 h2 h3 h4 h5
    exact hh _ _ (h4 ▸ bits_sub R n) (h5 ▸ bits_sub C k)
theorem tab_setN {n : Nat} {F : Nat → Nat} {k v : Nat} : (tabN n F).set k (v : Int) = tabN n (setF F k v) := by
  apply List.ext_getElem
  · simp [tabN]
  · intro i h1 h2
    simp only [tabN, setF, List.getElem_set, List.getElem_map, List.getElem_range]
    by_cases e : k = i
    · rw [if_pos e, if_pos e.symm]
    · rw [if_neg e, if_neg (fun h => e h.symm)]
/-- the factors -/
def facs (D : Nat → Nat) (n : Nat) : List Int := (List.range n).map fun i => if D (i + 1) = 0 then 0 else ((D (i + 1) / D i : Nat) : Int)
end Go.Proofs.Ytgjfpmjllpgadaa

/- Counting with digits: the carry; a matrix given by rows. Plain facts: nothing of the program is here. -/
set_option linter.unusedVariables false
set_option linter.unusedSimpArgs false
namespace Go.Proofs.Ytgjfpmjllpgadaa

theorem dig_lt {q : Nat} (hq : 1 ≤ q) : ∀ (k t j : Nat), j < k → (dig q k t).getD j 0 < q
  | k + 1, t, 0, _ => by simpa [dig] using Nat.mod_lt t hq
  | k + 1, t, j + 1, h => by
    have := dig_lt hq k (t / q) j (by omega)
    simpa [dig] using this
/-- the numbers of a vector as ints -/
def nvi (v : List Nat) : List Int := v.map fun (x : Nat) => (x : Int)
theorem nvi_len (v : List Nat) : (nvi v).length = v.length := by simp [nvi]
theorem nvi_get (v : List Nat) (i : Nat) : (nvi v).getD i 0 = ((v.getD i 0 : Nat) : Int) := by
  simp only [nvi, List.getD, List.getElem?_map]
  cases v[i]? <;> rfl
/-- the sum over the first i numbers of a row -/
def dotI (r : List Int) (v : List Nat) (i : Nat) : Int := sm (List.range i) fun j => r.getD j 0 * ((v.getD j 0 : Nat) : Int)
/-- a vector of which the first i numbers were set to 0 -/
def curV (v : List Nat) (i : Nat) : List Nat := List.replicate i 0 ++ v.drop i
/-- a vector that some row does not map to a multiple of q -/
def badV (m : List (List Int)) (k q : Nat) (v : List Nat) : Bool := m.any fun r => decide (¬ (q : Int) ∣ dotI r v k)
end Go.Proofs.Ytgjfpmjllpgadaa
