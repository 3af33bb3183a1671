/-
  The sign of a permutation: inversions and cycles. Plain facts: nothing of the program is here.
-/
import Derived.Test.YtenoiklocdoemaaGTopBurauDetAC
import Derived.Test.YtenoiklocdoemaaGTopBurauDetBC
import Derived.Test.YtenoiklocdoemaaGTopBurauDetAW
set_option linter.unusedVariables false
set_option linter.unusedSimpArgs false
namespace Go.Proofs.Ytenoiklocdoemaa

/-- how many k below m -/
def cnt (p : Nat → Bool) : Nat → Nat
  | 0 => 0
  | m + 1 => cnt p m + if p m then 1 else 0
/-- inversions -/
def ivc (f : Nat → Nat) : Nat → Nat
  | 0 => 0
  | i + 1 => ivc f i + cnt (fun k => decide (f i < f k)) i
structure IsP (f : Nat → Nat) (n : Nat) : Prop where
  lt : ∀ i, i < n → f i < n
  inj : ∀ i j, i < n → j < n → f i = f j → i = j
theorem itr_congr {f g : Nat → Nat} {n : Nat} (hf : ∀ i, i < n → f i < n) (h : ∀ i, i < n → f i = g i) : ∀ (j i : Nat), i < n → itr f j i = itr g j i
  | 0, _, _ => rfl
  | j + 1, i, hi => by
    simp only [itr]
    rw [← itr_congr hf h j i hi, h _ (itr_lt hf j i hi)]
theorem IsP.pm {f : Nat → Nat} {n : Nat} (h : IsP f n) : Pm (tabN n f) := by
  refine ⟨fun i hi => ?_, ?_⟩
  · have hl : (tabN n f).length = n := tab_len n f
    rw [hl] at hi ⊢
    rw [tabN_get hi]
    have := h.lt i hi
    omega
  · unfold tabN
    rw [List.Nodup, List.pairwise_map]
    refine List.Pairwise.imp_of_mem ?_ (List.nodup_range (n := n))
    intro a b ha hb hne he
    exact hne (h.inj a b (by simpa using ha) (by simpa using hb) (by exact_mod_cast he))
theorem Pm.isP {xs : List Int} (h : Pm xs) : IsP (fn xs) xs.length := ⟨h.lt, h.inj⟩
theorem fn_tab {n : Nat} {f : Nat → Nat} {i : Nat} (hi : i < n) : fn (tabN n f) i = f i := by
  unfold fn; rw [tabN_get hi]; simp
theorem Pm.per {xs : List Int} (hp : Pm xs) {i : Nat} (hi : i < xs.length) : ∃ L, 1 ≤ L ∧ L ≤ xs.length ∧ itr (fn xs) L i = i := by
  obtain ⟨hm, hd⟩ := cyc_mk hp xs.length (Nat.le_refl _)
  obtain ⟨c, h1, h2⟩ := hm.on i hi (hd i hi)
  have := cyclesOf_lens hp.rng c h1
  exact ⟨c.length, this.1, this.2, h2⟩
theorem IsP.per {f : Nat → Nat} {n : Nat} (h : IsP f n) {i : Nat} (hi : i < n) : ∃ L, 1 ≤ L ∧ L ≤ n ∧ itr f L i = i := by
  have hl : (tabN n f).length = n := tab_len n f
  obtain ⟨L, h1, h2, h3⟩ := h.pm.per (i := i) (by rw [hl]; exact hi)
  rw [hl] at h2
  refine ⟨L, h1, h2, ?_⟩
  rwa [← itr_congr h.lt (fun i hi => (fn_tab hi).symm) L i hi] at h3
theorem IsP.pre {f : Nat → Nat} {n : Nat} (h : IsP f n) {y : Nat} (hy : y < n) : ∃ u, u < n ∧ f u = y := by
  obtain ⟨L, h1, h2, h3⟩ := h.per hy
  obtain ⟨m, rfl⟩ : ∃ m, L = m + 1 := ⟨L - 1, by omega⟩
  exact ⟨itr f m y, itr_lt h.lt m y hy, h3⟩
/-- from a point of an orbit the way leads back -/
theorem IsP.back {f : Nat → Nat} {n : Nat} (h : IsP f n) {i j k : Nat} (hi : i < n) (e : itr f j i = k) : ∃ m, itr f m k = i := by
  obtain ⟨L, h1, h2, h3⟩ := h.per hi
  have hle : j ≤ L * (j + 1) := Nat.le_trans (Nat.le_succ j) (Nat.le_mul_of_pos_left _ h1)
  refine ⟨L * (j + 1) - j, ?_⟩
  rw [← e, ← itr_add, Nat.add_sub_cancel' hle]
  exact itr_mul h3 _

/-- the least point of its orbit -/
def mn (f : Nat → Nat) (k : Nat) : Prop := ∀ j, k ≤ itr f j k
noncomputable instance (f : Nat → Nat) (k : Nat) : Decidable (mn f k) := Classical.propDecidable _
noncomputable def mnc (f : Nat → Nat) : Nat → Nat
  | 0 => 0
  | k + 1 => mnc f k + if mn f k then 1 else 0
/-- the last point is passed by -/
def byp (f : Nat → Nat) (N : Nat) (x : Nat) : Nat := if f x = N then f N else f x
section
variable {f : Nat → Nat} {N : Nat} (h : IsP f (N + 1)) (hv : f N ≠ N)
include h hv
set_option linter.unusedSectionVars false
end
/-- the sign of a count -/
def sgn (m : Nat) : Int := if m % 2 = 0 then 1 else -1
theorem sgn_bd (m : Nat) : -1 ≤ sgn m ∧ sgn m ≤ 1 := by unfold sgn; split <;> omega
end Go.Proofs.Ytenoiklocdoemaa

/- The determinant by rows (Laplace) and over all permutations (Leibniz). Plain facts: nothing of the program is here. -/
set_option linter.unusedVariables false
set_option linter.unusedSimpArgs false
namespace Go.Proofs.Ytenoiklocdoemaa

/-! ### sums -/
def sm {α : Type} : List α → (α → Int) → Int
  | [], _ => 0
  | x :: l, g => g x + sm l g
/-! ### what is left -/
def rem (n : Nat) (p : List Nat) : List Nat := (List.range n).filter fun i => !p.contains i
def Asc (l : List Nat) : Prop := l.Pairwise (· < ·)
/-! ### by rows -/
/-- alternating sum over a list, the list without each of its elements in turn -/
def alts (F : Nat → List Nat → Int) : Nat → List Nat → List Nat → Int
  | _, _, [] => 0
  | j, a, x :: b => sgn j * F x (a ++ b) + alts F (j + 1) (a ++ [x]) b
def lap (M : Nat → Nat → Int) : List Nat → List Nat → Int
  | [], _ => 1
  | r :: rs, cs => alts (fun c rest => M r c * lap M rs rest) 0 [] cs
/-! ### over all permutations -/
/-- how the prefix p may go on, k numbers more, in the order of the numbers -/
def sfx (n : Nat) : Nat → List Nat → List (List Nat)
  | 0, _ => [[]]
  | k + 1, p => (rem n p).flatMap fun i => (sfx n k (p ++ [i])).map (i :: ·)
def sgp (n : Nat) (p : List Nat) (i : Nat) : Int := sgn ((rem n p).filter fun x => decide (x < i)).length
def trm (M : Nat → Nat → Int) (n : Nat) : List Nat → List Nat → List Nat → Int
  | r :: rs, p, i :: q => sgp n p i * (M r i * trm M n rs (p ++ [i]) q)
  | _, _, _ => 1
def ltc (x : Nat) (l : List Nat) : Nat := (l.filter fun y => decide (y < x)).length
def invs : List Nat → Nat
  | [] => 0
  | x :: l => ltc x l + invs l
def prd (M : Nat → Nat → Int) : List Nat → List Nat → Int
  | r :: rs, i :: q => M r i * prd M rs q
  | _, _ => 1
/-! ### the sign, counted the other way round -/
def gtc (x : Nat) (l : List Nat) : Nat := (l.filter fun y => decide (x < y)).length
end Go.Proofs.Ytenoiklocdoemaa

/- Determinants of matrices of Laurent polynomials: by rows (Laplace) and over all permutations (Leibniz). Plain facts: nothing of the program is here. -/
set_option linter.unusedVariables false
set_option linter.unusedSimpArgs false
namespace Go.Proofs.Ytenoiklocdoemaa

/-! ### sums -/
def smP {α : Type} : List α → (α → LP) → LP
  | [], _ => 0
  | x :: l, g => g x + smP l g
theorem smP_append {α : Type} (g : α → LP) : ∀ a b : List α, smP (a ++ b) g = smP a g + smP b g
  | [], b => by simp [smP, LP.zero_add]
  | x :: a, b => by simp only [List.cons_append, smP, smP_append g a b, LP.add_assoc]
/-! ### by rows -/
def altsP (F : Nat → List Nat → LP) : Nat → List Nat → List Nat → LP
  | _, _, [] => 0
  | j, a, x :: b => LP.smul (sgn j) (F x (a ++ b)) + altsP F (j + 1) (a ++ [x]) b
noncomputable def lapP (M : Nat → Nat → LP) : List Nat → List Nat → LP
  | [], _ => 1
  | r :: rs, cs => altsP (fun c rest => M r c * lapP M rs rest) 0 [] cs
noncomputable def trmP (M : Nat → Nat → LP) (n : Nat) : List Nat → List Nat → List Nat → LP
  | r :: rs, p, i :: q => LP.smul (sgp n p i) (M r i * trmP M n rs (p ++ [i]) q)
  | _, _, _ => 1
noncomputable def prdP (M : Nat → Nat → LP) : List Nat → List Nat → LP
  | r :: rs, i :: q => M r i * prdP M rs q
  | _, _ => 1
/-- the product that is made, from the left -/
noncomputable def pprP (M : Nat → Nat → LP) (q : List Nat) (s : LP) : Nat → LP
  | 0 => s
  | i + 1 => pprP M q s i * M i (q.getD i 0)
/-! ### supports -/
def Sup (B : Int) (a : LP) : Prop := ∀ e, a.f e ≠ 0 → -B ≤ e ∧ e ≤ B
theorem Sup.mono {B C : Int} {a : LP} (h : Sup B a) (hc : B ≤ C) : Sup C a := fun e he => by have := h e he; omega
theorem Sup.add {B : Int} {a b : LP} (h1 : Sup B a) (h2 : Sup B b) : Sup B (a + b) := fun e he => by
  by_cases c : a.f e = 0
  · exact h2 e (fun hh => he (by rw [LP.add_f, c, hh]; rfl))
  · exact h1 e c
theorem Sup.smul {B : Int} {a : LP} (k : Int) (h : Sup B a) : Sup B (LP.smul k a) := fun e he => h e (fun hh => he (by rw [LP.smul_f, hh, Int.mul_zero]))
theorem Sup.neg {B : Int} {a : LP} (h : Sup B a) : Sup B (-a) := h.smul (-1)
theorem Sup.zero {B : Int} : Sup B (0 : LP) := fun e he => absurd rfl he
theorem Sup.monom {B : Int} (c i : Int) (h : -B ≤ i ∧ i ≤ B) : Sup B (LP.mono c i) := fun e he => by
  have : e = i := Classical.byContradiction fun hh => he (if_neg hh)
  omega
theorem Sup.one {B : Int} (h : 0 ≤ B) : Sup B (1 : LP) := Sup.monom 1 0 (by omega)
theorem Sup.win {B : Nat} {a : LP} (h : Sup B a) : Win a.f (-(B : Int)) (2 * B + 1) := fun e he => by have := h e he; omega
theorem Sup.mul {B C : Nat} {a b : LP} (h1 : Sup B a) (h2 : Sup C b) : Sup ((B + C : Nat) : Int) (a * b) := fun e he => by
  have h := fun i => h1 i
  apply Classical.byContradiction
  intro hc
  apply he
  rw [LP.mul_f, cvF_eq a b e h1.win]
  refine sI_zero (fun i h3 h4 => ?_)
  by_cases hb : b.f (e - i) = 0
  · rw [hb, Int.mul_zero]
  · by_cases ha : a.f i = 0
    · rw [ha, Int.zero_mul]
    · have := h2 _ hb; have := h1 _ ha; omega
theorem altsP_sup {B : Int} {F : Nat → List Nat → LP} (h : ∀ x l, Sup B (F x l)) : ∀ (b : List Nat) (j : Nat) (a : List Nat), Sup B (altsP F j a b)
  | [], _, _ => Sup.zero
  | x :: b, j, a => (Sup.smul _ (h _ _)).add (altsP_sup h b _ _)
theorem lapP_sup {B : Nat} {M : Nat → Nat → LP} (h : ∀ r c, Sup B (M r c)) : ∀ (rs cs : List Nat), Sup ((rs.length * B : Nat) : Int) (lapP M rs cs)
  | [], _ => Sup.one (by simp)
  | r :: rs, cs => by
    have := altsP_sup (B := (((r :: rs).length * B : Nat) : Int)) (F := fun c rest => M r c * lapP M rs rest) (fun x l => by
      refine (Sup.mul (h r x) (lapP_sup h rs l)).mono ?_
      rw [List.length_cons, Nat.add_mul]; omega) cs 0 []
    exact this
end Go.Proofs.Ytenoiklocdoemaa

/- Steps of regions that keep the order of their text: clear at a slice of one's own. Nothing of the program is here. -/
set_option linter.unusedVariables false
set_option linter.unusedSimpArgs false
namespace Go.Proofs.Ytenoiklocdoemaa
open Go.RowKit
variable {P : Program} {T : TypeId → TI} {M : Hn} {cl : Oper → Cls} {ops : Array Oper} {l : List Oper} {t : Nat → PV} {h : HP} {K : AS → Prop} {d : Nat} {ty : TypeId} {pos : String} {aft : Array Edge} {n : Nat} {Q : Exit → AS → Prop}

theorem HRel.cells {w0 : World} {Z0 : Nat → Prop} {ρ : Pl} {w : World} (H : HRel w0 Z0 ρ h w) {tk b k off : Nat} {cs cs2 : List PV} {arr : Array Value} {T : TypeId} {news : List Value} (hb : h.blk tk = some cs) (r1 : ρ tk = some (b, k)) (r3 : w.heap[b]? = some (.cells arr T (0, 0)))
    (hl : cs2.length = news.length) (hle : off + news.length ≤ cs.length) (hv : ∀ i, i < cs2.length → V ρ (Zof Z0 ρ h) w (cs2.getD i .junk) (news.getD i undef)) :
    HRel w0 Z0 ρ (h.set tk (cs.take off ++ cs2 ++ cs.drop (off + news.length))) (w.setRow b (arr.toList.take (k + off) ++ news ++ arr.toList.drop (k + off + news.length)).toArray) ∧
      ∀ pv u, V ρ (Zof Z0 ρ h) w pv u → V ρ (Zof Z0 ρ (h.set tk (cs.take off ++ cs2 ++ cs.drop (off + news.length)))) (w.setRow b (arr.toList.take (k + off) ++ news ++ arr.toList.drop (k + off + news.length)).toArray) pv u := by
  rcases H.live tk cs hb with ⟨_, k1⟩ | ⟨b', o', arr', T', k1, k2, k3, k4, k5⟩
  · rw [r1] at k1; cases k1
  rw [r1] at k1; cases k1
  rw [r3] at k3; cases k3
  have hlen : (cs.take off ++ cs2 ++ cs.drop (off + news.length)).length = cs.length := by simp; omega
  refine H.write hb r1 r3 _ (by simp; omega) _ (by omega) (fun i hi => ?_)
  rw [hlen] at hi
  rw [show ∀ (l : List Value) j, l.toArray.getD j undef = l.getD j undef from fun l j => by simp [Array.getD, List.getD]; split <;> simp_all]
  simp only [List.getD, List.append_assoc]
  by_cases c1 : i < off
  · have := k5 i hi
    simp only [List.getD] at this
    rw [List.getElem?_append_left (by simp; omega), List.getElem?_take, if_pos c1, List.getElem?_append_left (by simp; omega), List.getElem?_take, if_pos (by omega)]
    have hi2 : k + i < arr.size := by omega
    simpa [Array.getD, hi2] using this
  · have y1 : (List.take off cs ++ (cs2 ++ List.drop (off + news.length) cs))[i]? = (cs2 ++ List.drop (off + news.length) cs)[i - off]? := by
      rw [List.getElem?_append_right (by simp; omega)]
      congr 1; simp; omega
    have y2 : (List.take (k + off) arr.toList ++ (news ++ List.drop (k + off + news.length) arr.toList))[k + i]? = (news ++ List.drop (k + off + news.length) arr.toList)[i - off]? := by
      rw [List.getElem?_append_right (by simp; omega)]
      congr 1; simp; omega
    rw [y1, y2]
    by_cases c2 : i < off + news.length
    · have := hv (i - off) (by omega)
      simp only [List.getD] at this
      rw [List.getElem?_append_left (by omega), List.getElem?_append_left (by omega)]
      exact this
    · have := k5 i hi
      simp only [List.getD] at this
      rw [List.getElem?_append_right (by omega), List.getElem?_append_right (by omega), List.getElem?_drop, List.getElem?_drop]
      rw [show off + news.length + (i - off - cs2.length) = i by omega, show k + off + news.length + (i - off - news.length) = k + i by omega]
      have hi2 : k + i < arr.size := by omega
      simpa [Array.getD, hi2] using this
theorem zeroCells_one {c : Array Value} {z : Value} (n : Nat) (hz : c.toList = [z]) : (Builtin.zeroCells c n).toList = List.replicate n z := by
  obtain rfl : c = #[z] := by cases c; simp_all
  simp [Builtin.zeroCells]
  apply List.ext_getElem
  · simp
  · intro i h1 h2
    simp [Nat.mod_one]
/-- clear(s), s a slice of one's own of elements of one cell -/
theorem AW.clr {tt : TypeId} {x : Operand} {el bs tk off m : Nat} {z : Value} {cs : List PV} (hx : evA t x = .ref tk off 1 m) (ht : T tt = .sl el 1 bs [z]) (h0 : cl = (fun _ => Cls.wr)) (hb : h.blk tk = some cs) (hl : off + m ≤ cs.length) (h1 : z.oneCell' = true)
    (hk : AW P T M cl ops l ⟨t, h.set tk (cs.take off ++ List.replicate m (ofConst.ofCell z) ++ cs.drop (off + m))⟩ K) : AW P T M cl ops (⟨none, .call ⟨.builtin .clear, #[x], #[tt]⟩, ty, pos, aft, none⟩ :: l) ⟨t, h⟩ K := by
  refine ⟨.inr ⟨h0, .inl rfl, (fun _ hh => by cases hh), fun hT => ?_⟩⟩
  intro w0 Z0 ρ w a Kw Q H he hK
  have hS : SlT P tt el 1 bs [z] := by have := hT tt; rw [ht] at this; exact this.2.2
  obtain ⟨i, z', q1, q2, q3, q4, q5⟩ := hS.info
  have e1 := he x
  simp only at e1
  rw [hx] at e1
  obtain ⟨cap, A, ex, g1, g2, g3⟩ := e1.ref_inv
  have hK2 : ∀ u w' ρ', HRel w0 Z0 ρ' (h.set tk (cs.take off ++ List.replicate m (ofConst.ofCell z) ++ cs.drop (off + m))) w' → (∀ pv x, V ρ (Zof Z0 ρ h) w pv x → V ρ' (Zof Z0 ρ' (h.set tk (cs.take off ++ List.replicate m (ofConst.ofCell z) ++ cs.drop (off + m)))) w' pv x) → Kw (a.put none u) w' :=
    fun u w' ρ' H' up => hK .junk _ u w' ρ' hk.out H' (.junk _) up
  by_cases hm : m = 0
  · subst hm
    have e : h.set tk (cs.take off ++ List.replicate 0 (ofConst.ofCell z) ++ cs.drop (off + 0)) = h := by
      rw [List.replicate_zero, List.append_nil, Nat.add_zero, List.take_append_drop]; exact HP.set_self hb
    rw [e] at hK2
    refine wp_val (u := .tuple #[]) (w' := w) ?_ (hK2 _ w ρ H (fun _ _ h => h))
    cases A <;> simp [execOp, resolve, invoke, builtin, ex, Builtin.clear_, run_underlying hS.und]
  · obtain ⟨b, k, arr, T', r1, rfl, r3, r4⟩ := g3 (by omega)
    have hp := H.cells (off := off) (cs2 := List.replicate m (ofConst.ofCell z)) (news := List.replicate m z) hb r1 r3 (by simp) (by simpa using hl) (fun i hi => by
      have hi' : i < m := by simpa using hi
      simp only [List.getD, List.getElem?_replicate, if_pos hi', Option.getD_some]
      exact V.ofCell z)
    simp only [List.length_replicate] at hp
    obtain ⟨H', up⟩ := hp
    have hst := run_storeCells_at P b (k + off) T' (List.replicate m z) 0 arr w r3 (by simp; omega) (by intro v hv'; rw [List.eq_of_mem_replicate hv']; exact h1)
    simp only [Nat.add_zero, List.length_replicate] at hst
    refine wp_val (u := .tuple #[]) (w' := w.setRow b _) ?_ (hK2 _ _ ρ H' up)
    obtain ⟨m, rfl⟩ : ∃ m', m = m' + 1 := ⟨m - 1, by omega⟩
    simp [execOp, resolve, invoke, builtin, ex, Builtin.clear_, run_underlying hS.und, zeroValue, typeInfo, q1, q4, zeroCells_one _ q5, hst]
theorem RC.cell1 {s : AS} {x t tk sz : Nat} {cs : List PV} (hx : s.tmps x = .ptr tk 0) (hb : s.hp.blk tk = some cs) (ht : (T t).shape = some (true, sz)) (hl : cs.length = sz) : retC T s [.cell x t] [.agg cs] :=
  ⟨_, _, rfl, ⟨tk, 0, cs, hx, hb, .inl ⟨sz, ht, by omega, by rw [List.drop_zero, List.take_of_length_le (by omega)]⟩⟩, rfl⟩
end Go.Proofs.Ytenoiklocdoemaa

/- Steps with numbers that wrap, in regions that keep the order of their text; what a slot holds read anew. Nothing of the program is here. -/
set_option linter.unusedVariables false
set_option linter.unusedSimpArgs false
namespace Go.Proofs.Ytenoiklocdoemaa
open Go.RowKit
variable {P : Program} {T : TypeId → TI} {M : Hn} {cl : Oper → Cls} {ops : Array Oper} {l : List Oper} {t : Nat → PV} {h : HP} {K : AS → Prop} {d : Nat} {ty : TypeId} {pos : String} {aft : Array Edge} {n : Nat} {Q : Exit → AS → Prop}

end Go.Proofs.Ytenoiklocdoemaa
