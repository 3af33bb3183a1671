/- Fox derivatives: the plain facts. Nothing of the program is here. -/
import Derived.Test.YtehilackpaejnaaGPolyDetsAZ
set_option linter.unusedVariables false
set_option linter.unusedSimpArgs false
namespace Go.Proofs.Ytehilackpaejnaa

theorem least_ex (p : Nat → Prop) (h : ∃ m, p m) : ∃ m, p m ∧ ∀ k, p k → m ≤ k := by
  obtain ⟨m, hm⟩ := h
  induction m using Nat.strongRecOn with
  | _ m ih =>
    by_cases c : ∃ k, k < m ∧ p k
    · obtain ⟨k, h1, h2⟩ := c; exact ih k h1 h2
    · refine ⟨m, hm, fun k hk => ?_⟩
      apply Classical.byContradiction; intro hc
      exact c ⟨k, by omega, hk⟩
theorem canon_range' {F : Int → Int} {low high : Int} (h1 : F low ≠ 0) (h2 : F high ≠ 0) (h3 : ∀ e, F e ≠ 0 → low ≤ e ∧ e ≤ high) {n : Nat} (hn : (n : Int) = high - low + 1) : canon (low, tab n (fun j => F (low + j))) ∧ ∀ e, co (low, tab n (fun j => F (low + j))) e = F e := by
  have h4 := h3 low h1
  have h5 := h3 high h2
  refine ⟨.inr ⟨?_, ?_, ?_⟩, fun e => ?_⟩
  · intro e; have := congrArg List.length e; simp at this; omega
  · simp only
    rw [tab_get (by omega)]; simpa using h1
  · simp only [tab_length]
    rw [tab_get (by omega), show low + ((n - 1 : Nat) : Int) = high by omega]; exact h2
  · exact congrFun (co_tab (F := F) (fun e he => by have := h3 e he; omega)) e
/-- a function that is 0 but for finitely many places has its polynomial -/
theorem cano_spec {F : Int → Int} {lo : Int} {n : Nat} (h : ∀ e, F e ≠ 0 → lo ≤ e ∧ e < lo + n) : canon (cano F) ∧ ∀ e, co (cano F) e = F e := by
  by_cases hz : ∀ e, F e = 0
  · rw [cano_zero hz]
    exact ⟨canon_zero, fun e => by rw [co_nil, hz]⟩
  · obtain ⟨e0, he0⟩ : ∃ e, F e ≠ 0 := Classical.byContradiction fun c => hz (fun e => Classical.byContradiction fun c2 => c ⟨e, c2⟩)
    have h0 := h e0 he0
    obtain ⟨i, hi1, hi2⟩ := least_ex (fun j : Nat => F (lo + j) ≠ 0) ⟨(e0 - lo).toNat, by rw [show lo + ((e0 - lo).toNat : Int) = e0 by omega]; exact he0⟩
    obtain ⟨j, hj1, hj2⟩ := least_ex (fun j : Nat => F (lo + n - 1 - j) ≠ 0) ⟨(lo + n - 1 - e0).toNat, by rw [show lo + n - 1 - ((lo + n - 1 - e0).toNat : Int) = e0 by omega]; exact he0⟩
    have h3 : ∀ e, F e ≠ 0 → lo + i ≤ e ∧ e ≤ lo + n - 1 - j := fun e he => by
      have h4 := h e he
      have h5 := hi2 (e - lo).toNat (by rw [show lo + ((e - lo).toNat : Int) = e by omega]; exact he)
      have h6 := hj2 (lo + n - 1 - e).toNat (by rw [show lo + n - 1 - ((lo + n - 1 - e).toNat : Int) = e by omega]; exact he)
      omega
    have h7 := h3 _ hi1
    obtain ⟨g1, g2⟩ := canon_range' hi1 hj1 h3 (n := (lo + n - 1 - j - (lo + i) + 1).toNat) (by omega)
    rw [cano_eq g1 g2]
    exact ⟨g1, g2⟩
/-- .. in its bounds -/
theorem cano_bd {F : Int → Int} {lo : Int} {n : Nat} (h : ∀ e, F e ≠ 0 → lo ≤ e ∧ e < lo + n) {B : Int} (hB : ∀ e, -B ≤ F e ∧ F e ≤ B) : ((cano F).1 = 0 ∨ lo ≤ (cano F).1 ∧ (cano F).1 < lo + n) ∧ (cano F).2.length ≤ n ∧ ∀ x ∈ (cano F).2, -B ≤ x ∧ x ≤ B := by
  obtain ⟨g1, g2⟩ := cano_spec h
  generalize cano F = p at g1 g2
  obtain ⟨l, c⟩ := p
  refine ⟨?_, ?_, fun x hx => ?_⟩
  · rcases g1 with ⟨_, g⟩ | ⟨g3, g4, g5⟩
    · exact .inl g
    · refine .inr (h l ?_)
      have := co_at (l, c) 0
      rw [Int.natCast_zero, Int.add_zero] at this
      rw [← g2, this]; exact g4
  · rcases g1 with ⟨g, _⟩ | ⟨g3, g4, g5⟩
    · simp only at g; subst g; simp
    · have hc : 0 < c.length := List.length_pos_iff.2 g3
      have a1 := h (l + (0 : Nat)) (by rw [← g2, co_at (l, c)]; exact g4)
      have a2 := h (l + (c.length - 1 : Nat)) (by rw [← g2, co_at (l, c)]; exact g5)
      simp only at a1 a2 ⊢
      omega
  · obtain ⟨i, hi, rfl⟩ := List.getElem_of_mem hx
    have := co_at (l, c) i
    rw [g2] at this
    rw [← getD_lt 0 hi, ← this]
    exact hB _

def sg (x : Int) : Int := if 0 < x then 1 else -1
def wt (w : List Int) : Int := (w.map sg).sum
theorem wt_nil : wt [] = 0 := rfl
theorem wt_cons (x : Int) (w : List Int) : wt (x :: w) = sg x + wt w := rfl
theorem wt_append (u v : List Int) : wt (u ++ v) = wt u + wt v := by unfold wt; rw [List.map_append, List.sum_append]
theorem wt_bd (w : List Int) : -(w.length : Int) ≤ wt w ∧ wt w ≤ w.length := by
  have := sum_bd (K := 1) (l := w.map sg) (fun x hx => by
    obtain ⟨y, _, rfl⟩ := List.mem_map.1 hx
    unfold sg; split <;> omega)
  rw [List.length_map, Int.mul_one] at this
  exact this
def fx1 (i x e : Int) : Int := if x = i then (if e = 0 then 1 else 0) else if x = -i then (if e = -1 then -1 else 0) else 0
def foxD (i : Int) : List Int → Int → Int
  | [], _ => 0
  | x :: w, e => fx1 i x e + foxD i w (e - sg x)
theorem foxD_append (i : Int) : ∀ (u v : List Int) (e : Int), foxD i (u ++ v) e = foxD i u e + foxD i v (e - wt u)
  | [], v, e => by simp [foxD, wt_nil]
  | x :: u, v, e => by
    rw [List.cons_append]
    simp only [foxD]
    rw [foxD_append i u v, wt_cons, show e - sg x - wt u = e - (sg x + wt u) by omega]; omega
theorem foxD_snoc (i : Int) (u : List Int) (x e : Int) : foxD i (u ++ [x]) e = foxD i u e + fx1 i x (e - wt u) := by
  rw [foxD_append]; simp [foxD]
theorem foxD_bd (i : Int) : ∀ (w : List Int) (e : Int), -(w.length : Int) ≤ foxD i w e ∧ foxD i w e ≤ w.length
  | [], e => by simp [foxD]
  | x :: w, e => by
    have := foxD_bd i w (e - sg x)
    have h1 : -1 ≤ fx1 i x e ∧ fx1 i x e ≤ 1 := by unfold fx1; split <;> (try split) <;> (try split) <;> omega
    simp only [foxD, List.length_cons]
    omega
theorem foxD_supp (i : Int) : ∀ (w : List Int) (e : Int), foxD i w e ≠ 0 → -(w.length : Int) ≤ e ∧ e ≤ w.length
  | [], e, h => absurd rfl h
  | x :: w, e, h => by
    simp only [List.length_cons]
    by_cases h1 : fx1 i x e = 0
    · simp only [foxD, h1, Int.zero_add] at h
      have := foxD_supp i w _ h
      unfold sg at this
      split at this <;> omega
    · unfold fx1 at h1
      split at h1
      · split at h1 <;> first | omega | exact absurd rfl h1
      · split at h1
        · split at h1 <;> first | omega | exact absurd rfl h1
        · exact absurd rfl h1

def single (s c : Int) : Tm := fun y => if y = s then some c else none
theorem single_enum (s c : Int) : Enum (single s c) [(s, c)] ∧ Full (single s c) [(s, c)] := by
  refine ⟨⟨fun y hy => ?_, by simp⟩, fun k d hk => ?_⟩
  · rw [List.mem_singleton] at hy; subst hy; exact if_pos rfl
  · unfold single at hk
    split at hk
    · rename_i h; cases hk; rw [h]; simp
    · cases hk
/-- the reference's way: by halves -/
noncomputable def dm (i : Int) : Nat → List Int → Tm
  | 0, _ => fun _ => none
  | n + 1, w => if w.length = 0 then fun _ => none else if w = [i] then single 0 1 else if w = [-i] then single (-1) (-1) else if w.length = 1 then fun _ => none else
    tplus (dm i n (w.take (w.length / 2))) (tmul (single (wt (w.take (w.length / 2))) 1) (dm i n (w.drop (w.length / 2)))) 1
theorem shift_tv (s : Int) (b : Tm) (e : Int) : tv (tmul (single s 1) b) e = tv b (e - s) := by
  rw [tmul_eq (single_enum s 1).1 (single_enum s 1).2, tv_gM]
  simp
theorem single_tv (s c : Int) (b : Tm) (e : Int) : tv (tmul (single s c) b) e = c * tv b (e - s) := by
  rw [tmul_eq (single_enum s c).1 (single_enum s c).2, tv_gM]
  simp
theorem single_some {s c : Int} {b : Tm} {e : Int} (h : (tmul (single s c) b e).isSome = true) : (b (e - s)).isSome = true := by
  rw [tmul_eq (single_enum s c).1 (single_enum s c).2] at h
  unfold gM at h
  simp only [List.any_cons, List.any_nil, Bool.or_false] at h
  split at h
  · rename_i hh; exact hh
  · cases h
theorem shift_some {s : Int} {b : Tm} {e : Int} (h : (tmul (single s 1) b e).isSome = true) : (b (e - s)).isSome = true := by
  rw [tmul_eq (single_enum s 1).1 (single_enum s 1).2] at h
  unfold gM at h
  simp only [List.any_cons, List.any_nil, Bool.or_false] at h
  split at h
  · rename_i hh; exact hh
  · cases h
theorem dm_some (i : Int) : ∀ (n : Nat) (w : List Int) (e : Int), (dm i n w e).isSome = true → -(w.length : Int) ≤ e ∧ e ≤ w.length
  | 0, w, e, h => by simp [dm] at h
  | n + 1, w, e, h => by
    simp only [dm] at h
    split at h
    · cases h
    split at h
    · rename_i hw
      unfold single at h
      split at h
      · subst hw; simp; omega
      · cases h
    split at h
    · rename_i hw
      unfold single at h
      split at h
      · subst hw; simp; omega
      · cases h
    split at h
    · cases h
    rename_i h0 h1 h2 h3
    unfold tplus at h
    split at h
    · rename_i hh
      rw [Bool.or_eq_true] at hh
      rcases hh with hh | hh
      · have := dm_some i n _ _ hh
        rw [List.length_take] at this; omega
      · have := dm_some i n _ _ (shift_some hh)
        have hb := wt_bd (w.take (w.length / 2))
        rw [List.length_take] at hb
        rw [List.length_drop] at this; omega
    · cases h
theorem dm_tv (i : Int) (hi : 0 < i) : ∀ (n : Nat) (w : List Int), w.length ≤ n → ∀ e, tv (dm i n w) e = foxD i w e
  | 0, w, hl, e => by
    have : w = [] := List.eq_nil_of_length_eq_zero (by omega)
    subst this; rfl
  | n + 1, w, hl, e => by
    simp only [dm]
    split
    · rename_i h0
      have : w = [] := List.eq_nil_of_length_eq_zero h0
      subst this; rfl
    split
    · rename_i hw; subst hw
      simp only [foxD, fx1, if_pos rfl, Int.add_zero]
      unfold tv single; split <;> rfl
    split
    · rename_i h1 hw; subst hw
      simp only [foxD, fx1, Int.add_zero]
      rw [if_neg (by omega), if_pos trivial]
      unfold tv single; split <;> rfl
    split
    · rename_i h0 h1 h2 h3
      obtain ⟨x, rfl⟩ := List.length_eq_one_iff.1 h3
      have e1 : x ≠ i := fun hh => h1 (by rw [hh])
      have e2 : x ≠ -i := fun hh => h2 (by rw [hh])
      simp only [foxD, fx1, Int.add_zero, if_neg e1, if_neg e2]
      rfl
    · rename_i h0 h1 h2 h3
      rw [tv_plus, shift_tv, dm_tv i hi n _ (by rw [List.length_take]; omega), dm_tv i hi n _ (by rw [List.length_drop]; omega), Int.one_mul, ← foxD_append, List.take_append_drop]
end Go.Proofs.Ytehilackpaejnaa
