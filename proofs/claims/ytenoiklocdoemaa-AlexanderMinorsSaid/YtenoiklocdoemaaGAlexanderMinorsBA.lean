/- Determinants of matrices of Laurent polynomials: by rows (Laplace) and over all permutations (Leibniz). Plain facts: nothing of the program is here. -/
import Derived.Test.YtenoiklocdoemaaGAlexanderMinorsAY
import Derived.Test.YtenoiklocdoemaaGAlexanderMinorsAZ
import Derived.Test.YtenoiklocdoemaaGAlexanderMinorsAV
set_option linter.unusedVariables false
set_option linter.unusedSimpArgs false
namespace Go.Proofs.Ytenoiklocdoemaa

/-! ### sums -/
def smP {α : Type} : List α → (α → LP) → LP
  | [], _ => 0
  | x :: l, g => g x + smP l g
theorem smP_append {α : Type} (g : α → LP) : ∀ a b : List α, smP (a ++ b) g = smP a g + smP b g
  | [], b => by simp [smP, LP.zero_add]
  | x :: a, b => by simp only [List.cons_append, smP, smP_append g a b, LP.add_assoc]
theorem smP_congr {α : Type} {g h : α → LP} : ∀ {l : List α}, (∀ x ∈ l, g x = h x) → smP l g = smP l h
  | [], _ => rfl
  | x :: l, e => by simp only [smP]; rw [e x (by simp), smP_congr (fun y hy => e y (by simp [hy]))]
theorem smP_map {α β : Type} (f : α → β) (g : β → LP) : ∀ l : List α, smP (l.map f) g = smP l (fun x => g (f x))
  | [] => rfl
  | x :: l => by simp only [List.map_cons, smP, smP_map f g l]
theorem smP_flat {α β : Type} (f : α → List β) (g : β → LP) : ∀ l : List α, smP (l.flatMap f) g = smP l (fun x => smP (f x) g)
  | [] => rfl
  | x :: l => by simp only [List.flatMap_cons, smP, smP_append, smP_flat f g l]
theorem smP_mul {α : Type} (c : LP) (g : α → LP) : ∀ l : List α, smP l (fun x => c * g x) = c * smP l g
  | [] => by simp [smP, LP.mul_zero]
  | x :: l => by simp only [smP, smP_mul c g l, LP.mul_add]
theorem smP_smul {α : Type} (c : Int) (g : α → LP) : ∀ l : List α, smP l (fun x => LP.smul c (g x)) = LP.smul c (smP l g)
  | [] => by simp [smP, LP.smul_zero]
  | x :: l => by simp only [smP, smP_smul c g l, LP.smul_add]
theorem smP_add {α : Type} (g h : α → LP) : ∀ l : List α, smP l (fun x => g x + h x) = smP l g + smP l h
  | [] => by simp [smP, LP.add_zero]
  | x :: l => by simp only [smP, smP_add g h l]; ac_rfl
/-! ### by rows -/
def altsP (F : Nat → List Nat → LP) : Nat → List Nat → List Nat → LP
  | _, _, [] => 0
  | j, a, x :: b => LP.smul (sgn j) (F x (a ++ b)) + altsP F (j + 1) (a ++ [x]) b
noncomputable def lapP (M : Nat → Nat → LP) : List Nat → List Nat → LP
  | [], _ => 1
  | r :: rs, cs => altsP (fun c rest => M r c * lapP M rs rest) 0 [] cs
noncomputable def trmP (M : Nat → Nat → LP) (n : Nat) : List Nat → List Nat → List Nat → LP
  | r :: rs, p, i :: q => LP.smul (sgp n p i) (M r i * trmP M n rs (p ++ [i]) q)
  | _, _, _ => 1
theorem altsP_sm {F : Nat → List Nat → LP} {G : Nat → LP} {R : List Nat} (h : ∀ a x b, R = a ++ x :: b → G x = LP.smul (sgn a.length) (F x (a ++ b))) : ∀ (b a : List Nat), R = a ++ b → altsP F a.length a b = smP b G
  | [], _, _ => rfl
  | x :: b, a, e => by
    simp only [altsP, smP]
    rw [h a x b e]
    have := altsP_sm h b (a ++ [x]) (by rw [e]; simp)
    rw [List.length_append, List.length_singleton] at this
    rw [this]
theorem lapP_sfx (M : Nat → Nat → LP) (n : Nat) : ∀ (rs : List Nat) (p : List Nat), smP (sfx n rs.length p) (trmP M n rs p) = lapP M rs (rem n p)
  | [], _ => by simp [sfx, smP, trmP, lapP, LP.add_zero]
  | r :: rs, p => by
    show smP ((rem n p).flatMap fun i => (sfx n rs.length (p ++ [i])).map (i :: ·)) (trmP M n (r :: rs) p) = altsP (fun c rest => M r c * lapP M rs rest) 0 [] (rem n p)
    rw [smP_flat]
    have key := altsP_sm (F := fun c rest => M r c * lapP M rs rest) (G := fun i => smP ((sfx n rs.length (p ++ [i])).map (i :: ·)) (trmP M n (r :: rs) p)) (R := rem n p) (fun a x b e => by
      have hs := asc_rem n p
      rw [e] at hs
      obtain ⟨e1, e2⟩ := asc_split hs
      have e3 : sgp n p x = sgn a.length := by unfold sgp; rw [e, e2]
      have e4 : rem n (p ++ [x]) = a ++ b := by rw [rem_snoc, e, e1]
      rw [smP_map]
      show smP (sfx n rs.length (p ++ [x])) (fun q => LP.smul (sgp n p x) (M r x * trmP M n rs (p ++ [x]) q)) = _
      rw [smP_smul, smP_mul, lapP_sfx M n rs (p ++ [x]), e3, e4]) (rem n p) [] rfl
    exact key.symm
noncomputable def prdP (M : Nat → Nat → LP) : List Nat → List Nat → LP
  | r :: rs, i :: q => M r i * prdP M rs q
  | _, _ => 1
theorem trmP_eq (M : Nat → Nat → LP) {n : Nat} : ∀ (rs : List Nat) (p s : List Nat), s ∈ sfx n rs.length p → (rem n p).length = rs.length → trmP M n rs p s = LP.smul (sgn (invs s)) (prdP M rs s)
  | [], p, s, h, _ => by
    simp only [sfx, List.length_nil, List.mem_singleton] at h
    subst h
    simp [trmP, invs, prdP, sgn, LP.smul_one]
  | r :: rs, p, s, h, hk => by
    simp only [sfx, List.length_cons, List.mem_flatMap, List.mem_map] at h
    obtain ⟨i, hi, s', hs', rfl⟩ := h
    obtain ⟨a, b, e⟩ := List.append_of_mem hi
    have hs := asc_rem n p
    rw [e] at hs
    obtain ⟨e1, e2⟩ := asc_split hs
    have e4 : rem n (p ++ [i]) = a ++ b := by rw [rem_snoc, e, e1]
    have hl : (rem n (p ++ [i])).length = rs.length := by rw [e4]; rw [e] at hk; simp at hk ⊢; omega
    have ih := trmP_eq M rs (p ++ [i]) s' hs' hl
    have hc := sfx_count (fun y => decide (y < i)) rs.length (p ++ [i]) s' hs' hl
    have e5 : ltc i s' = ((rem n p).filter fun x => decide (x < i)).length := by
      unfold ltc
      rw [hc, e4, e, e2]
      have h1 := List.pairwise_append.1 hs
      have h2 := List.pairwise_cons.1 h1.2.1
      rw [List.filter_append, List.filter_eq_self.2 (fun y hy => by have := h1.2.2 y hy i (by simp); simpa using this), List.filter_eq_nil_iff.2 (fun y hy => by have := h2.1 y hy; simp; omega)]
      simp
    show LP.smul (sgp n p i) (M r i * trmP M n rs (p ++ [i]) s') = LP.smul (sgn (ltc i s' + invs s')) (M r i * prdP M rs s')
    rw [ih, sgn_add, e5]
    unfold sgp
    rw [LP.mul_smul, LP.smul_smul]
/-- LAPLACE IS LEIBNIZ. -/
theorem lapP_leib (M : Nat → Nat → LP) (rs : List Nat) : lapP M rs (List.range rs.length) = smP (sfx rs.length rs.length []) (fun s => LP.smul (sgn (invs s)) (prdP M rs s)) := by
  rw [← rem_nil, ← lapP_sfx]
  exact smP_congr (fun s hs => trmP_eq M rs [] s hs (by rw [rem_nil]; simp))
/-- the product that is made, from the left -/
noncomputable def pprP (M : Nat → Nat → LP) (q : List Nat) (s : LP) : Nat → LP
  | 0 => s
  | i + 1 => pprP M q s i * M i (q.getD i 0)
theorem prdP_snoc (M : Nat → Nat → LP) (r c : Nat) : ∀ (rs q : List Nat), rs.length = q.length → prdP M (rs ++ [r]) (q ++ [c]) = prdP M rs q * M r c
  | [], [], _ => by simp [prdP, LP.mul_one, LP.one_mul]
  | a :: rs, b :: q, h => by
    simp only [List.cons_append, prdP]
    rw [prdP_snoc M r c rs q (by simpa using h), LP.mul_assoc]
  | [], b :: q, h => by simp at h
  | a :: rs, [], h => by simp at h
theorem prdP_ppr (M : Nat → Nat → LP) (q : List Nat) (s : LP) : ∀ i, i ≤ q.length → s * prdP M (List.range i) (q.take i) = pprP M q s i
  | 0, _ => by simp [prdP, pprP, LP.mul_one]
  | i + 1, h => by
    have e : q.take (i + 1) = q.take i ++ [q.getD i 0] := by
      rw [List.take_succ_eq_append_getElem (show i < q.length by omega)]
      congr 2
      simp [List.getD, show i < q.length by omega]
    rw [e, List.range_succ, prdP_snoc M i _ _ _ (by simp; omega), ← LP.mul_assoc, prdP_ppr M q s i (by omega)]; rfl
/-! ### supports -/
def Sup (B : Int) (a : LP) : Prop := ∀ e, a.f e ≠ 0 → -B ≤ e ∧ e ≤ B
theorem Sup.mono {B C : Int} {a : LP} (h : Sup B a) (hc : B ≤ C) : Sup C a := fun e he => by have := h e he; omega
theorem Sup.add {B : Int} {a b : LP} (h1 : Sup B a) (h2 : Sup B b) : Sup B (a + b) := fun e he => by
  by_cases c : a.f e = 0
  · exact h2 e (fun hh => he (by rw [LP.add_f, c, hh]; rfl))
  · exact h1 e c
theorem Sup.smul {B : Int} {a : LP} (k : Int) (h : Sup B a) : Sup B (LP.smul k a) := fun e he => h e (fun hh => he (by rw [LP.smul_f, hh, Int.mul_zero]))
theorem Sup.neg {B : Int} {a : LP} (h : Sup B a) : Sup B (-a) := h.smul (-1)
theorem Sup.zero {B : Int} : Sup B (0 : LP) := fun e he => absurd rfl he
theorem Sup.monom {B : Int} (c i : Int) (h : -B ≤ i ∧ i ≤ B) : Sup B (LP.mono c i) := fun e he => by
  have : e = i := Classical.byContradiction fun hh => he (if_neg hh)
  omega
theorem Sup.one {B : Int} (h : 0 ≤ B) : Sup B (1 : LP) := Sup.monom 1 0 (by omega)
theorem Sup.win {B : Nat} {a : LP} (h : Sup B a) : Win a.f (-(B : Int)) (2 * B + 1) := fun e he => by have := h e he; omega
theorem Sup.mul {B C : Nat} {a b : LP} (h1 : Sup B a) (h2 : Sup C b) : Sup ((B + C : Nat) : Int) (a * b) := fun e he => by
  have h := fun i => h1 i
  apply Classical.byContradiction
  intro hc
  apply he
  rw [LP.mul_f, cvF_eq a b e h1.win]
  refine sI_zero (fun i h3 h4 => ?_)
  by_cases hb : b.f (e - i) = 0
  · rw [hb, Int.mul_zero]
  · by_cases ha : a.f i = 0
    · rw [ha, Int.zero_mul]
    · have := h2 _ hb; have := h1 _ ha; omega
theorem altsP_sup {B : Int} {F : Nat → List Nat → LP} (h : ∀ x l, Sup B (F x l)) : ∀ (b : List Nat) (j : Nat) (a : List Nat), Sup B (altsP F j a b)
  | [], _, _ => Sup.zero
  | x :: b, j, a => (Sup.smul _ (h _ _)).add (altsP_sup h b _ _)
theorem lapP_sup {B : Nat} {M : Nat → Nat → LP} (h : ∀ r c, Sup B (M r c)) : ∀ (rs cs : List Nat), Sup ((rs.length * B : Nat) : Int) (lapP M rs cs)
  | [], _ => Sup.one (by simp)
  | r :: rs, cs => by
    have := altsP_sup (B := (((r :: rs).length * B : Nat) : Int)) (F := fun c rest => M r c * lapP M rs rest) (fun x l => by
      refine (Sup.mul (h r x) (lapP_sup h rs l)).mono ?_
      rw [List.length_cons, Nat.add_mul]; omega) cs 0 []
    exact this
end Go.Proofs.Ytenoiklocdoemaa

/- Steps of regions that keep the order of their text: clear at a slice of one's own. Nothing of the program is here. -/
set_option linter.unusedVariables false
set_option linter.unusedSimpArgs false
namespace Go.Proofs.Ytenoiklocdoemaa
open Go.RowKit
variable {P : Program} {T : TypeId → TI} {M : Hn} {cl : Oper → Cls} {ops : Array Oper} {l : List Oper} {t : Nat → PV} {h : HP} {K : AS → Prop} {d : Nat} {ty : TypeId} {pos : String} {aft : Array Edge} {n : Nat} {Q : Exit → AS → Prop}

theorem HRel.cells {w0 : World} {Z0 : Nat → Prop} {ρ : Pl} {w : World} (H : HRel w0 Z0 ρ h w) {tk b k off : Nat} {cs cs2 : List PV} {arr : Array Value} {T : TypeId} {news : List Value} (hb : h.blk tk = some cs) (r1 : ρ tk = some (b, k)) (r3 : w.heap[b]? = some (.cells arr T (0, 0)))
    (hl : cs2.length = news.length) (hle : off + news.length ≤ cs.length) (hv : ∀ i, i < cs2.length → V ρ (Zof Z0 ρ h) w (cs2.getD i .junk) (news.getD i undef)) :
    HRel w0 Z0 ρ (h.set tk (cs.take off ++ cs2 ++ cs.drop (off + news.length))) (w.setRow b (arr.toList.take (k + off) ++ news ++ arr.toList.drop (k + off + news.length)).toArray) ∧
      ∀ pv u, V ρ (Zof Z0 ρ h) w pv u → V ρ (Zof Z0 ρ (h.set tk (cs.take off ++ cs2 ++ cs.drop (off + news.length)))) (w.setRow b (arr.toList.take (k + off) ++ news ++ arr.toList.drop (k + off + news.length)).toArray) pv u := by
  rcases H.live tk cs hb with ⟨_, k1⟩ | ⟨b', o', arr', T', k1, k2, k3, k4, k5⟩
  · rw [r1] at k1; cases k1
  rw [r1] at k1; cases k1
  rw [r3] at k3; cases k3
  have hlen : (cs.take off ++ cs2 ++ cs.drop (off + news.length)).length = cs.length := by simp; omega
  refine H.write hb r1 r3 _ (by simp; omega) _ (by omega) (fun i hi => ?_)
  rw [hlen] at hi
  rw [show ∀ (l : List Value) j, l.toArray.getD j undef = l.getD j undef from fun l j => by simp [Array.getD, List.getD]; split <;> simp_all]
  simp only [List.getD, List.append_assoc]
  by_cases c1 : i < off
  · have := k5 i hi
    simp only [List.getD] at this
    rw [List.getElem?_append_left (by simp; omega), List.getElem?_take, if_pos c1, List.getElem?_append_left (by simp; omega), List.getElem?_take, if_pos (by omega)]
    have hi2 : k + i < arr.size := by omega
    simpa [Array.getD, hi2] using this
  · have y1 : (List.take off cs ++ (cs2 ++ List.drop (off + news.length) cs))[i]? = (cs2 ++ List.drop (off + news.length) cs)[i - off]? := by
      rw [List.getElem?_append_right (by simp; omega)]
      congr 1; simp; omega
    have y2 : (List.take (k + off) arr.toList ++ (news ++ List.drop (k + off + news.length) arr.toList))[k + i]? = (news ++ List.drop (k + off + news.length) arr.toList)[i - off]? := by
      rw [List.getElem?_append_right (by simp; omega)]
      congr 1; simp; omega
    rw [y1, y2]
    by_cases c2 : i < off + news.length
    · have := hv (i - off) (by omega)
      simp only [List.getD] at this
      rw [List.getElem?_append_left (by omega), List.getElem?_append_left (by omega)]
      exact this
    · have := k5 i hi
      simp only [List.getD] at this
      rw [List.getElem?_append_right (by omega), List.getElem?_append_right (by omega), List.getElem?_drop, List.getElem?_drop]
      rw [show off + news.length + (i - off - cs2.length) = i by omega, show k + off + news.length + (i - off - news.length) = k + i by omega]
      have hi2 : k + i < arr.size := by omega
      simpa [Array.getD, hi2] using this
theorem RC.cell1 {s : AS} {x t tk sz : Nat} {cs : List PV} (hx : s.tmps x = .ptr tk 0) (hb : s.hp.blk tk = some cs) (ht : (T t).shape = some (true, sz)) (hl : cs.length = sz) : retC T s [.cell x t] [.agg cs] :=
  ⟨_, _, rfl, ⟨tk, 0, cs, hx, hb, .inl ⟨sz, ht, by omega, by rw [List.drop_zero, List.take_of_length_le (by omega)]⟩⟩, rfl⟩
end Go.Proofs.Ytenoiklocdoemaa

/- Steps with numbers that wrap, in regions that keep the order of their text; what a slot holds read anew. Nothing of the program is here. -/
set_option linter.unusedVariables false
set_option linter.unusedSimpArgs false
namespace Go.Proofs.Ytenoiklocdoemaa
open Go.RowKit
variable {P : Program} {T : TypeId → TI} {M : Hn} {cl : Oper → Cls} {ops : Array Oper} {l : List Oper} {t : Nat → PV} {h : HP} {K : AS → Prop} {d : Nat} {ty : TypeId} {pos : String} {aft : Array Edge} {n : Nat} {Q : Exit → AS → Prop}

end Go.Proofs.Ytenoiklocdoemaa
