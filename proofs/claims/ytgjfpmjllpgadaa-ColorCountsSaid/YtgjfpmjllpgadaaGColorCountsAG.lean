/- What divides all minors does not change when a row is added to another, nor for columns. Plain facts: nothing of the program is here. -/
import Derived.Test.YtgjfpmjllpgadaaGColorCountsAF
set_option linter.unusedVariables false
set_option linter.unusedSimpArgs false
namespace Go.Proofs.Ytgjfpmjllpgadaa

theorem asc_cut (j : Nat) : ∀ R : List Nat, Asc R → j ∉ R → ∃ lo hi, R = lo ++ hi ∧ (∀ x ∈ lo, x < j) ∧ ∀ x ∈ hi, j < x
  | [], _, _ => ⟨[], [], rfl, by simp, by simp⟩
  | x :: R, ha, hj => by
    have ha' := List.pairwise_cons.1 ha
    by_cases h : x < j
    · obtain ⟨lo, hi, e, h1, h2⟩ := asc_cut j R ha'.2 (fun hm => hj (by simp [hm]))
      refine ⟨x :: lo, hi, by rw [e]; rfl, fun y hy => ?_, h2⟩
      rcases List.mem_cons.1 hy with rfl | hy
      · exact h
      · exact h1 y hy
    · have hx : j < x := by
        have : x ≠ j := fun e => hj (by simp [e])
        omega
      refine ⟨[], x :: R, rfl, by simp, fun y hy => ?_⟩
      rcases List.mem_cons.1 hy with rfl | hy
      · exact hx
      · have := ha'.1 y hy; omega
theorem asc_ins {lo hi : List Nat} {j : Nat} (h : Asc (lo ++ hi)) (h1 : ∀ x ∈ lo, x < j) (h2 : ∀ x ∈ hi, j < x) : Asc (lo ++ j :: hi) := by
  obtain ⟨a, b, c⟩ := List.pairwise_append.1 h
  refine List.pairwise_append.2 ⟨a, List.pairwise_cons.2 ⟨h2, b⟩, fun x hx y hy => ?_⟩
  rcases List.mem_cons.1 hy with rfl | hy
  · exact h1 x hx
  · exact c x hx y hy
/-- an entry is moved to its place: up to the sign nothing changes -/
theorem place {F : List Nat → Int} {j q : Nat} (hF : ∀ pre mid post : List Nat, pre.length + mid.length + post.length + 1 = q → F (pre ++ j :: (mid ++ post)) = sgn mid.length * F (pre ++ (mid ++ j :: post))) {pre post : List Nat} (hl : pre.length + post.length + 1 = q) (ha : Asc (pre ++ post)) (hj : j ∉ pre ++ post) :
    ∃ A, Asc A ∧ (∀ x, x ∈ A → x = j ∨ x ∈ pre ++ post) ∧ A.length = q ∧ (F (pre ++ j :: post) = F A ∨ F (pre ++ j :: post) = -(F A)) := by
  have hpa := List.pairwise_append.1 ha
  have sg : ∀ m, sgn m = 1 ∨ sgn m = -1 := fun m => by unfold sgn; split <;> simp
  obtain ⟨lo, mid, e, h1, h2⟩ := asc_cut j pre hpa.1 (fun hm => hj (by simp [hm]))
  cases mid with
  | nil =>
    rw [List.append_nil] at e
    subst e
    obtain ⟨m2, hi, e2, h3, h4⟩ := asc_cut j post hpa.2.1 (fun hm => hj (by simp [hm]))
    subst e2
    refine ⟨(pre ++ m2) ++ j :: hi, asc_ins (by rw [List.append_assoc]; exact ha) (fun x hx => ?_) h4, fun x hx => ?_, by simp at hl ⊢; omega, ?_⟩
    · rcases List.mem_append.1 hx with hx | hx
      · exact h1 x hx
      · exact h3 x hx
    · simp only [List.mem_append, List.mem_cons] at hx ⊢
      rcases hx with (hx | hx) | hx | hx
      · exact .inr (.inl hx)
      · exact .inr (.inr (.inl hx))
      · exact .inl hx
      · exact .inr (.inr (.inr hx))
    · rw [hF pre m2 hi (by simp at hl; omega), List.append_assoc]
      rcases sg m2.length with h | h <;> rw [h]
      · left; omega
      · right; omega
  | cons y mid =>
    subst e
    have hpost : ∀ x ∈ post, j < x := fun x hx => by
      have h5 := hpa.2.2 y (by simp) x hx
      have h6 := h2 y (by simp)
      omega
    refine ⟨lo ++ j :: ((y :: mid) ++ post), asc_ins (by rw [← List.append_assoc]; exact ha) h1 (fun x hx => ?_), fun x hx => ?_, by simp at hl ⊢; omega, ?_⟩
    · rcases List.mem_append.1 hx with hx | hx
      · exact h2 x hx
      · exact hpost x hx
    · simp only [List.mem_append, List.mem_cons] at hx ⊢
      rcases hx with hx | hx | (hx | hx) | hx
      · exact .inr (.inl (.inl hx))
      · exact .inl hx
      · exact .inr (.inl (.inr (.inl hx)))
      · exact .inr (.inl (.inr (.inr hx)))
      · exact .inr (.inr hx)
    · have := hF lo (y :: mid) post (by simp at hl ⊢; omega)
      rw [this, List.append_assoc]
      rcases sg (y :: mid).length with h | h <;> rw [h]
      · left; omega
      · right; omega
/-- g divides all minors of size q -/
def DvM (M : Nat → Nat → Int) (n k q g : Nat) : Prop := ∀ rs cs, Asc rs → (∀ x ∈ rs, x < n) → rs.length = q → Asc cs → (∀ x ∈ cs, x < k) → cs.length = q → (g : Int) ∣ lap M rs cs
/-- a row is added to another -/
def rowAdd (M : Nat → Nat → Int) (i j : Nat) (c : Int) : Nat → Nat → Int := fun r x => if r = i then M i x + c * M j x else M r x
def colAdd (M : Nat → Nat → Int) (a b : Nat) (c : Int) : Nat → Nat → Int := fun r x => if x = a then M r a + c * M r b else M r x
theorem asc_split2 {a b : List Nat} {x : Nat} (h : Asc (a ++ x :: b)) : Asc (a ++ b) ∧ x ∉ a ++ b := by
  obtain ⟨h1, h2, h3⟩ := List.pairwise_append.1 h
  obtain ⟨h4, h5⟩ := List.pairwise_cons.1 h2
  refine ⟨List.pairwise_append.2 ⟨h1, h5, fun y hy z hz => h3 y hy z (by simp [hz])⟩, fun hm => ?_⟩
  rcases List.mem_append.1 hm with hm | hm
  · have := h3 x hm x (by simp); omega
  · have := h4 x hm; omega
theorem lap_rows_same {M M' : Nat → Nat → Int} : ∀ (rs cs : List Nat), (∀ r ∈ rs, ∀ x, M' r x = M r x) → lap M' rs cs = lap M rs cs
  | [], _, _ => rfl
  | r :: rs, cs, h => by
    rw [lap_iot, lap_iot, show M' r = M r from funext fun x => h r (by simp) x, show lap M' rs = lap M rs from funext fun l => lap_rows_same rs l (fun q hq => h q (by simp [hq]))]
theorem DvM.row {M : Nat → Nat → Int} {n k q g : Nat} (h : DvM M n k q g) {i j : Nat} (hj : j < n) (c : Int) : DvM (rowAdd M i j c) n k q g := fun rs cs h1 h2 h3 h4 h5 h6 => by
  by_cases hi : i ∈ rs
  · obtain ⟨pre, post, rfl⟩ := List.append_of_mem hi
    obtain ⟨ha, hn⟩ := asc_split2 h1
    have e := lap_row (M := M) (M' := rowAdd M i j c) (i := i) (a := i) (b := j) (u := 1) (v := c) pre post cs (fun r hr x => if_neg (fun e : r = i => hn (by rw [← e]; exact hr))) (fun x => by
      show (if i = i then M i x + c * M j x else M i x) = _
      rw [if_pos rfl, Int.mul_one, Int.mul_comm c])
    rw [e, Int.mul_one]
    refine Int.dvd_add (h _ _ h1 h2 h3 h4 h5 h6) (Int.dvd_trans ?_ (Int.dvd_mul_right _ _))
    by_cases hjm : j ∈ pre ++ post
    · refine ⟨0, ?_⟩
      rw [Int.mul_zero]
      rcases List.mem_append.1 hjm with hm | hm
      · obtain ⟨p1, p2, rfl⟩ := List.append_of_mem hm
        rw [List.append_assoc]
        exact lap_dup M j p2 p1 post cs
      · obtain ⟨p1, p2, rfl⟩ := List.append_of_mem hm
        exact lap_dup M j p1 pre p2 cs
    · obtain ⟨A, a1, a2, a3, a4⟩ := place (F := fun l => lap M l cs) (j := j) (q := q) (fun p m s _ => lap_move M j m p s cs) (by simp at h3; omega) ha hjm
      have := h A cs a1 (fun x hx => by
        rcases a2 x hx with rfl | hx
        · exact hj
        · exact h2 x (by
            rcases List.mem_append.1 hx with hx | hx
            · simp [hx]
            · simp [hx])) a3 h4 h5 h6
      rcases a4 with a4 | a4
      · rw [show lap M (pre ++ j :: post) cs = lap M A cs from a4]; exact this
      · rw [show lap M (pre ++ j :: post) cs = -(lap M A cs) from a4]; exact (Int.dvd_neg).2 this
  · rw [lap_rows_same (M := M) (M' := rowAdd M i j c) rs cs (fun r hr x => if_neg (fun e : r = i => hi (by rw [← e]; exact hr)))]
    exact h rs cs h1 h2 h3 h4 h5 h6
theorem lap_cols_same {M M' : Nat → Nat → Int} : ∀ (rs cs : List Nat), (∀ x ∈ cs, ∀ r, M' r x = M r x) → lap M' rs cs = lap M rs cs
  | [], _, _ => rfl
  | r :: rs, cs, h => by
    rw [lap_iot, lap_iot]
    have key : ∀ (l : List Nat) (L K : List Nat → Int), (∀ x ∈ l, M' r x = M r x) → (∀ s, (∀ x ∈ s, x ∈ l) → L s = K s) → iot (M' r) L l = iot (M r) K l := by
      intro l
      induction l with
      | nil => intro L K _ _; rfl
      | cons x b ih =>
        intro L K h1 h2
        simp only [iot]
        rw [h1 x (by simp), h2 b (fun y hy => by simp [hy]), ih (fun l => L (x :: l)) (fun l => K (x :: l)) (fun y hy => h1 y (by simp [hy])) (fun s hs => h2 (x :: s) (fun y hy => by
          rcases List.mem_cons.1 hy with rfl | hy
          · simp
          · simp [hs y hy]))]
    exact key cs _ _ (fun x hx => h x hx r) (fun s hs => lap_cols_same rs s (fun x hx => h x (hs x hx)))
theorem DvM.col {M : Nat → Nat → Int} {n k q g : Nat} (h : DvM M n k q g) {a b : Nat} (hb : b < k) (c : Int) : DvM (colAdd M a b c) n k q g := fun rs cs h1 h2 h3 h4 h5 h6 => by
  by_cases hi : a ∈ cs
  · obtain ⟨pre, post, rfl⟩ := List.append_of_mem hi
    obtain ⟨ha, hn⟩ := asc_split2 h4
    have hl : rs.length = pre.length + post.length + 1 := by simp at h6; omega
    have e := lap_lin (M := M) (M' := colAdd M a b c) (c := a) (a := a) (b := b) (u := 1) (v := c) rs pre post hl (fun r x hx => if_neg (fun e : x = a => hn (by rw [← e]; exact hx))) (fun r => by
      show (if a = a then M r a + c * M r b else M r a) = _
      rw [if_pos rfl, Int.mul_one, Int.mul_comm c])
    rw [e, Int.mul_one]
    refine Int.dvd_add (h _ _ h1 h2 h3 h4 h5 h6) (Int.dvd_trans ?_ (Int.dvd_mul_right _ _))
    by_cases hjm : b ∈ pre ++ post
    · refine ⟨0, ?_⟩
      rw [Int.mul_zero]
      rcases List.mem_append.1 hjm with hm | hm
      · obtain ⟨p1, p2, rfl⟩ := List.append_of_mem hm
        rw [List.append_assoc]
        exact lap_dupc M b rs p2 p1 post (by simp at hl; omega)
      · obtain ⟨p1, p2, rfl⟩ := List.append_of_mem hm
        exact lap_dupc M b rs p1 pre p2 (by simp at hl; omega)
    · obtain ⟨A, a1, a2, a3, a4⟩ := place (F := lap M rs) (j := b) (q := q) (fun p m s hq => lap_movec M b rs m p s (by omega)) (by omega) ha hjm
      have := h rs A h1 h2 h3 a1 (fun x hx => by
        rcases a2 x hx with rfl | hx
        · exact hb
        · exact h5 x (by
            rcases List.mem_append.1 hx with hx | hx
            · simp [hx]
            · simp [hx])) a3
      rcases a4 with a4 | a4
      · rw [a4]; exact this
      · rw [a4]; exact (Int.dvd_neg).2 this
  · rw [lap_cols_same (M := M) (M' := colAdd M a b c) rs cs (fun x hx r => if_neg (fun e : x = a => hi (by rw [← e]; exact hx)))]
    exact h rs cs h1 h2 h3 h4 h5 h6
end Go.Proofs.Ytgjfpmjllpgadaa
