/- The number of solutions modulo m, from the divisors of all minors. Plain facts: nothing of the program is here. -/
import Derived.Test.YtgjfpmjllpgadaaGColorCountsAK
import Derived.WalkKit
import Derived.WalkSpells
import Derived.WalkLawsBesides
import Derived.Lib.Hide
set_option linter.unusedVariables false
set_option linter.unusedSimpArgs false
namespace Go.Proofs.Ytgjfpmjllpgadaa

theorem dprd_app (N : Nat → Nat → Int) (b : List Nat) : ∀ a : List Nat, dprd N (a ++ b) = dprd N a * dprd N b
  | [] => by show dprd N b = 1 * dprd N b; omega
  | r :: a => by
    show N r r * dprd N (a ++ b) = N r r * dprd N a * dprd N b
    rw [dprd_app N b a, Int.mul_assoc]
/-- the invariant factor -/
def facN (D : Nat → Nat) (i : Nat) : Nat := if D (i + 1) = 0 then 0 else D (i + 1) / D i
theorem cnt_sol {M : Nat → Nat → Int} {n k m : Nat} {D : Nat → Nat} (hm : 1 ≤ m) (hD : ∀ q g, g ∣ D q ↔ DvM M n k q g) : cntS M n k m = prdN (fun i => if i < min n k then Nat.gcd (facN D i) m else m) 0 k := by
  obtain ⟨N, h1, h2, h3⟩ := smith_ex n k M
  have hq : ∀ q, q ≤ min n k → D q = (dprd N (List.range q)).natAbs := fun q hq => by
    have key : ∀ g : Nat, g ∣ D q ↔ g ∣ (dprd N (List.range q)).natAbs := fun g => by
      rw [hD q g, h1.dv q g, dv_diag h2 h3 hq g, ← Int.natAbs_dvd_natAbs, Int.natAbs_natCast]
    exact Nat.dvd_antisymm ((key _).1 (Nat.dvd_refl _)) ((key _).2 (Nat.dvd_refl _))
  have hs : ∀ i, i < min n k → D (i + 1) = D i * (N i i).natAbs := fun i hi => by
    rw [hq (i + 1) (by omega), hq i (by omega), List.range_succ, dprd_app, Int.natAbs_mul]
    show _ * (N i i * 1).natAbs = _
    rw [Int.mul_one]
  have up : ∀ d j, j + d < min n k → N j j ∣ N (j + d) (j + d) := by
    intro d
    induction d with
    | zero => intro j _; exact Int.dvd_refl _
    | succ d ih => intro j h; exact Int.dvd_trans (ih j (by omega)) (h3 (j + d) h)
  have zero : ∀ i, i < min n k → D i = 0 → N i i = 0 := by
    intro i
    induction i with
    | zero =>
      intro _ h
      rw [hq 0 (by omega)] at h
      exact absurd (show (1 : Nat) = 0 from h) (by omega)
    | succ i ih =>
      intro hi h
      rw [hs i (by omega)] at h
      have hz : N i i = 0 := by
        rcases Nat.mul_eq_zero.1 h with h | h
        · exact ih (by omega) h
        · exact Int.natAbs_eq_zero.1 h
      have := h3 i hi
      rw [hz] at this
      exact Int.zero_dvd.1 this
  have hf : ∀ i, i < min n k → facN D i = (N i i).natAbs := fun i hi => by
    unfold facN
    by_cases h : D (i + 1) = 0
    · rw [if_pos h]
      rw [hs i hi] at h
      rcases Nat.mul_eq_zero.1 h with h | h
      · rw [zero i hi h]; rfl
      · exact h.symm
    · rw [if_neg h, hs i hi]
      have : 0 < D i := Nat.pos_of_ne_zero (fun e => h (by rw [hs i hi, e, Nat.zero_mul]))
      rw [Nat.mul_comm, Nat.mul_div_cancel _ this]
  rw [← h1.cnt hm, cnt_diag hm h2]
  refine prdN_congr k 0 (fun j _ hj => ?_)
  by_cases hn : j < n
  · rw [if_pos hn, if_pos (by omega), hf j (by omega)]
    show Nat.gcd (N j j).natAbs ((m : Int)).natAbs = _
    rw [Int.natAbs_natCast]
  · rw [if_neg hn, if_neg (by omega)]
end Go.Proofs.Ytgjfpmjllpgadaa

/- Vectors as digits: the order in which they are tried. Plain facts: nothing of the program is here. -/
set_option linter.unusedVariables false
set_option linter.unusedSimpArgs false
namespace Go.Proofs.Ytgjfpmjllpgadaa

def dig (m : Nat) : Nat → Nat → List Nat
  | 0, _ => []
  | k + 1, t => t % m :: dig m k (t / m)
def valG (m : Nat) : List Nat → Nat
  | [] => 0
  | x :: v => x + m * valG m v
theorem dig_len (m : Nat) : ∀ (k t : Nat), (dig m k t).length = k
  | 0, _ => rfl
  | k + 1, t => by show (dig m k (t / m)).length + 1 = k + 1; rw [dig_len m k]
theorem dig_mem {m : Nat} (hm : 1 ≤ m) : ∀ (k t : Nat), dig m k t ∈ vecs m k
  | 0, _ => by simp [dig, vecs]
  | k + 1, t => by
    simp only [vecs, List.mem_flatMap, List.mem_range, List.mem_map]
    exact ⟨t % m, Nat.mod_lt _ (by omega), dig m k (t / m), dig_mem hm k _, rfl⟩
theorem valG_dig {m : Nat} (hm : 1 ≤ m) : ∀ (k t : Nat), t < m ^ k → valG m (dig m k t) = t
  | 0, t, h => by simp at h; subst h; rfl
  | k + 1, t, h => by
    show t % m + m * valG m (dig m k (t / m)) = t
    rw [valG_dig hm k (t / m) (Nat.div_lt_of_lt_mul (by rwa [Nat.pow_succ, Nat.mul_comm] at h))]
    exact Nat.mod_add_div t m
theorem dig_valG {m : Nat} (hm : 1 ≤ m) : ∀ (k : Nat) (v : List Nat), v ∈ vecs m k → valG m v < m ^ k ∧ dig m k (valG m v) = v
  | 0, v, h => by
    simp only [vecs, List.mem_singleton] at h
    subst h
    exact ⟨by simp [valG], rfl⟩
  | k + 1, v, h => by
    simp only [vecs, List.mem_flatMap, List.mem_range, List.mem_map] at h
    obtain ⟨x, hx, u, hu, rfl⟩ := h
    obtain ⟨h1, h2⟩ := dig_valG hm k u hu
    refine ⟨?_, ?_⟩
    · show x + m * valG m u < m ^ (k + 1)
      rw [Nat.pow_succ, Nat.mul_comm (m ^ k)]
      calc x + m * valG m u < m + m * valG m u := by omega
        _ = m * (valG m u + 1) := by rw [Nat.mul_succ, Nat.add_comm]
        _ ≤ m * m ^ k := Nat.mul_le_mul_left m h1
    · show (x + m * valG m u) % m :: dig m k ((x + m * valG m u) / m) = x :: u
      rw [Nat.add_mul_mod_self_left, Nat.mod_eq_of_lt hx, Nat.add_mul_div_left _ _ (by omega), Nat.div_eq_of_lt hx, Nat.zero_add, h2]
/-- all vectors are tried, each once -/
theorem dig_perm {m : Nat} (hm : 1 ≤ m) (k : Nat) : ((List.range (m ^ k)).map (dig m k)).Perm (vecs m k) := by
  refine (List.perm_ext_iff_of_nodup ?_ (nodup_vecs m k)).2 (fun v => ⟨fun h => ?_, fun h => ?_⟩)
  · exact List.pairwise_map.2 (List.Pairwise.imp_of_mem (fun {u w} hu hw huw e => huw (by rw [← valG_dig hm k u (List.mem_range.1 hu), e, valG_dig hm k w (List.mem_range.1 hw)])) List.nodup_range)
  · obtain ⟨t, _, rfl⟩ := List.mem_map.1 h
    exact dig_mem hm k t
  · obtain ⟨h1, h2⟩ := dig_valG hm k v h
    exact List.mem_map.2 ⟨_, List.mem_range.2 h1, h2⟩
theorem cnt_dig {m : Nat} (hm : 1 ≤ m) (k : Nat) (p : List Nat → Bool) : ((List.range (m ^ k)).filter fun t => p (dig m k t)).length = ((vecs m k).filter p).length := by
  rw [← ((dig_perm hm k).filter p).length_eq, List.filter_map, List.length_map]; rfl
/-- the next vector -/
def incV (m : Nat) : List Nat → List Nat
  | [] => []
  | x :: v => if x + 1 = m then 0 :: incV m v else (x + 1) :: v
end Go.Proofs.Ytgjfpmjllpgadaa

/-
  What a walk is told of a slice of ints: nil, empty or not. Nothing of the program is here.
-/
set_option linter.unusedVariables false
set_option linter.unusedSimpArgs false
namespace Go.Proofs.Ytgjfpmjllpgadaa
open Go.RowKit

/-- The cells of a slice value '.slice A vs.length cap' read as vs (one cell an element). -/
def Row (w : World) (A : Option Addr) (vs : List Value) : Prop :=
  vs ≠ [] → ∃ b o, A = some ⟨b, o, none⟩ ∧ b < w.heap.size ∧ ∀ i, i < vs.length → w.cell? ⟨b, o + i, none⟩ = some (vs.getD i undef)

def in64 (x : Int) : Prop := -9223372036854775808 ≤ x ∧ x ≤ 9223372036854775807

/-- The value '.slice A xs.length cap' reads as the list xs of ints. -/
structure IsInts (w : World) (A : Option Addr) (cap : Nat) (xs : List Int) : Prop where
  len : xs.length ≤ cap
  cap_le : cap ≤ 9223372036854775807
  bd : ∀ i, i < xs.length → in64 (xs.getD i 0)
  row : xs ≠ [] → ∃ b o, A = some ⟨b, o, none⟩ ∧ b < w.heap.size ∧ ∀ i, i < xs.length → w.cell? ⟨b, o + i, none⟩ = some (.int .i64 (xs.getD i 0))

theorem IsInts.below {w w' : World} {A : Option Addr} {cap : Nat} {xs : List Int} {B : Nat} (h : IsInts w A cap xs) (hb : Below B w w') (hB : w.heap.size ≤ B) : IsInts w' A cap xs :=
  ⟨h.len, h.cap_le, h.bd, fun hx => by
    obtain ⟨b, o, e, hl, hc⟩ := h.row hx
    exact ⟨b, o, e, Nat.lt_of_lt_of_le hl (Nat.le_trans (Nat.le_refl _) hb.size), fun i hi => (hb.cell (p := ⟨b, o + i, none⟩) (by show b < B; omega)).trans (hc i hi)⟩⟩

end Go.Proofs.Ytgjfpmjllpgadaa
