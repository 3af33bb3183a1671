/- Minors as determinants of smaller matrices; greatest common divisors of lists. Plain facts: nothing of the program is here. -/
import Derived.Test.YteecmiagfjjefaaSmithG
import Derived.Test.YteecmiagfjjefaaChoF
set_option linter.unusedVariables false
set_option linter.unusedSimpArgs false
namespace Go.Proofs.Yteecmiagfjjefaa

theorem alts_congr {F G : Nat → List Nat → Int} : ∀ (b : List Nat) (j : Nat) (a : List Nat), (∀ a1 x b1, a ++ b = a1 ++ x :: b1 → F x (a1 ++ b1) = G x (a1 ++ b1)) → alts F j a b = alts G j a b
  | [], _, _, _ => rfl
  | x :: b, j, a, h => by
    simp only [alts]
    rw [h a x b rfl, alts_congr b (j + 1) (a ++ [x]) (fun a1 y b1 e => h a1 y b1 (by rw [← e]; simp))]
theorem lap_congr {M N : Nat → Nat → Int} : ∀ (rs cs : List Nat), (∀ r ∈ rs, ∀ c ∈ cs, M r c = N r c) → lap M rs cs = lap N rs cs
  | [], _, _ => rfl
  | r :: rs, cs, h => by
    refine alts_congr cs 0 [] (fun a1 x b1 e => ?_)
    have e' : cs = a1 ++ x :: b1 := e
    subst e'
    rw [h r (by simp) x (by simp), lap_congr rs (a1 ++ b1) (fun r' hr c hc => h r' (by simp [hr]) c (by rcases List.mem_append.1 hc with h1 | h1 <;> simp [h1]))]
/-- some rows and columns -/
def subm (m : List (List Int)) (rows cs : List Nat) : List (List Int) := rows.map fun i => cs.map fun j => ent m i j
theorem ent_subm {m : List (List Int)} {rows cs : List Nat} {r c : Nat} (hr : r < rows.length) (hc : c < cs.length) : ent (subm m rows cs) r c = ent m (rows.getD r 0) (cs.getD c 0) := by
  unfold subm
  rw [show ∀ M, ent M r c = (M.getD r []).getD c 0 from fun _ => rfl]
  simp [List.getD, hr, hc]
theorem range_get (l : List Nat) : (List.range l.length).map (fun i => l.getD i 0) = l := by
  apply List.ext_getElem
  · simp
  · intro i h1 h2
    simp [List.getD, h2]
theorem det_subm {m : List (List Int)} {rows cs : List Nat} (h : rows.length = cs.length) : lap (ent (subm m rows cs)) (List.range rows.length) (List.range rows.length) = lap (ent m) rows cs := by
  have e1 : lap (ent m) rows cs = lap (ent m) ((List.range rows.length).map (fun i => rows.getD i 0)) ((List.range cs.length).map (fun i => cs.getD i 0)) := by rw [range_get, range_get]
  rw [e1, lap_map, lap_rows, ← h]
  refine lap_congr _ _ (fun r hr c hc => ?_)
  rw [ent_subm (List.mem_range.1 hr) (by have := List.mem_range.1 hc; omega)]
theorem mx_subm {m : List (List Int)} {n k q : Nat} {rows cs : List Nat} (h : Mx m n k) (hr : Sub n q rows) (hc : Sub k q cs) (hq : q ≤ 6) : Mx (subm m rows cs) q q := by
  have l1 := hr.2.2
  have l2 := hc.2.2
  refine ⟨by simp [subm, l1], hq, hq, fun r hr' => ?_, fun r c => ?_, fun h => h⟩
  · simp [subm, List.getD, show r < rows.length by omega, l2]
  · by_cases h1 : r < rows.length
    · by_cases h2 : c < cs.length
      · rw [ent_subm h1 h2]; exact h.bd _ _
      · rw [show ent (subm m rows cs) r c = 0 by simp [ent, subm, List.getD, h1, h2]]; omega
    · rw [show ent (subm m rows cs) r c = 0 by simp [ent, subm, List.getD, h1]]; omega
/-- a minor, or zero if the lists are too long -/
def mz (m : List (List Int)) (rows cs : List Nat) : Int := if rows.length ≤ 6 ∧ cs.length ≤ 6 then lap (ent m) rows cs else 0
theorem mz_bd {m : List (List Int)} {n k : Nat} (h : Mx m n k) (rows cs : List Nat) : -50000000000000000 ≤ mz m rows cs ∧ mz m rows cs ≤ 50000000000000000 := by
  unfold mz
  split
  · rename_i hh
    have := lap_bd h.bd rows cs hh.2
    have := pow600_6 hh.1
    omega
  · omega
def gF (l : List Int) : Nat := l.foldl (fun a x => Int.gcd a x) 0
theorem gF_snoc (l : List Int) (x : Int) : gF (l ++ [x]) = Int.gcd (gF l) x := by simp [gF, List.foldl_append]
theorem gF_dvd_aux (g : Nat) : ∀ (l : List Int) (a : Nat), g ∣ l.foldl (fun a x => Int.gcd a x) a ↔ g ∣ a ∧ ∀ x ∈ l, (g : Int) ∣ x
  | [], a => by simp
  | x :: l, a => by
    rw [List.foldl_cons, gF_dvd_aux g l]
    unfold Int.gcd
    rw [Nat.dvd_gcd_iff, Int.natAbs_natCast, ← Int.ofNat_dvd_left]
    simp [and_assoc]
theorem gF_dvd (g : Nat) (l : List Int) : g ∣ gF l ↔ ∀ x ∈ l, (g : Int) ∣ x := by
  unfold gF; rw [gF_dvd_aux]; simp
theorem gF_bd_aux {B : Nat} : ∀ (l : List Int) (a : Nat), a ≤ B → (∀ x ∈ l, x.natAbs ≤ B) → l.foldl (fun a x => Int.gcd a x) a ≤ B
  | [], a, h, _ => h
  | x :: l, a, h, hl => by
    rw [List.foldl_cons]
    refine gF_bd_aux l _ ?_ (fun y hy => hl y (by simp [hy]))
    unfold Int.gcd
    rw [Int.natAbs_natCast]
    by_cases e : a = 0
    · rw [e, Nat.gcd_zero_left]; exact hl x (by simp)
    · exact Nat.le_trans (Nat.gcd_le_left _ (by omega)) h
theorem gF_bd {B : Nat} {l : List Int} (h : ∀ x ∈ l, x.natAbs ≤ B) : gF l ≤ B := gF_bd_aux l 0 (Nat.zero_le _) h
/-- all minors of size q, as the reference takes them -/
def allM (m : List (List Int)) (n k q : Nat) : List Int := (csf n q 0).flatMap fun rows => (csf k q 0).map (mz m rows)
theorem allM_dv {m : List (List Int)} {n k : Nat} {D : Nat → Nat} (hD : Dv m n k D) {q : Nat} (hq : q ≤ 6) : gF (allM m n k q) = D q := by
  have key : ∀ g : Nat, g ∣ gF (allM m n k q) ↔ g ∣ D q := fun g => by
    rw [gF_dvd, hD q g]
    constructor
    · intro h rs cs h1 h2
      have := h (mz m rs cs) (List.mem_flatMap.2 ⟨rs, mem_csf0.2 h1, List.mem_map.2 ⟨cs, mem_csf0.2 h2, rfl⟩⟩)
      unfold mz at this
      rwa [if_pos ⟨by rw [h1.2.2]; exact hq, by rw [h2.2.2]; exact hq⟩] at this
    · intro h x hx
      obtain ⟨rs, h1, hx⟩ := List.mem_flatMap.1 hx
      obtain ⟨cs, h2, rfl⟩ := List.mem_map.1 hx
      unfold mz
      have h1' := mem_csf0.1 h1
      have h2' := mem_csf0.1 h2
      rw [if_pos ⟨by rw [h1'.2.2]; exact hq, by rw [h2'.2.2]; exact hq⟩]
      exact h rs cs h1' h2'
  exact Nat.dvd_antisymm ((key _).1 (Nat.dvd_refl _)) ((key _).2 (Nat.dvd_refl _))
theorem Dv.one {m : List (List Int)} {n k : Nat} {D : Nat → Nat} (hD : Dv m n k D) : D 0 = 1 := by
  have := (hD 0 (D 0)).1 (Nat.dvd_refl _) [] [] ⟨List.Pairwise.nil, (fun x hx => by cases hx), rfl⟩ ⟨List.Pairwise.nil, (fun x hx => by cases hx), rfl⟩
  have h1 : ((D 0 : Nat) : Int) ∣ 1 := this
  exact Nat.eq_one_of_dvd_one (by exact_mod_cast h1)
end Go.Proofs.Yteecmiagfjjefaa
