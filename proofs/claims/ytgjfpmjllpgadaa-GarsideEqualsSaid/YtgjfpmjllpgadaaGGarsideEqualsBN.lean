/- slices.IndexFunc, DeleteFunc, Clip, EqualFunc at lists of lists. No condition of its own. -/
import Derived.Test.YtgjfpmjllpgadaaGGarsideEqualsAY
import Derived.Test.YtgjfpmjllpgadaaGGarsideEqualsAV
import Derived.Test.YtgjfpmjllpgadaaGGarsideEqualsBM
import Derived.Test.YtgjfpmjllpgadaaGGarsideEqualsBH
import Derived.Test.YtgjfpmjllpgadaaGGarsideEqualsAX
import Derived.Test.YtgjfpmjllpgadaaGGarsideEqualsAC
set_option linter.unusedVariables false
set_option linter.unusedSimpArgs false
namespace Go.Proofs.Ytgjfpmjllpgadaa
open Go.RowKit

section
variable {F : List Int → PV} {b : Bool} {ls : List (List Int)} {f : FuncId} {cap : List PV}
end
end Go.Proofs.Ytgjfpmjllpgadaa

/- garside.formOf, NormalForm. No condition of its own. -/
set_option linter.unusedVariables false
set_option linter.unusedSimpArgs false
namespace Go.Proofs.Ytgjfpmjllpgadaa
open Go.RowKit

theorem wd_let {n : Nat} {w : List Int} (h : Wd n w) : ∀ x ∈ w, 1 ≤ x.natAbs ∧ x.natAbs < n := fun x hx => by
  obtain ⟨i, hi, rfl⟩ := List.getElem_of_mem hx
  have := h.lt i hi
  rw [getD_lt 0 hi] at this
  obtain ⟨h1, h2, h3⟩ := this
  omega
theorem take_one {w : List Int} {i : Nat} (h : i < w.length) : w.take (i + 1) = w.take i ++ [w.getD i 0] := by
  rw [List.take_add_one, List.getElem?_eq_getElem h]
  simp [List.getD, h]
/-- a form in memory -/
structure Frm (n : Nat) (w : List Int) (k : Int) (m : Nat) (G : Fam) (tf T off : Nat) (tk : Nat → Nat) (h : HP) : Prop where
  st : St n w k m G
  v : h.blk tf = some [pint n, pint k, .ref T off 1 m]
  F : Fac n m T off tk G h
  lt : tf < 2 * h.next
set_option maxHeartbeats 32000000 in
set_option maxRecDepth 100000 in
theorem formOf_e {n : Nat} {w : List Int} (hw : Wd n w) (h : HP) :
    SChE Try.prog 99 [pint n, pli w] h (fun r h' => ∃ tf k m G T off tk, r = .ptr tf 0 ∧ tf % 2 = 1 ∧ 2 * h.next ≤ tf ∧ Frm n w k m G tf T off tk h') := by
  have hwl := hw.len
  have hn6 := hw.n9
  refine SChE.go { mt := [10] } tok mixed Try.func99 rfl rfl Try.ntmps99 rfl rfl (by kernel_rfl) (fun hw0 => ?_)
  first | simp only [updS] | simp only [updL, Nat.reduceAdd]
  iterate 13 (first | refine S0 ?_ | refine S1 ?_ | refine S2 ?_ | refine S3 ?_ | refine S4 ?_ | refine S5 ?_ | refine S6 ?_ | refine S7 ?_ | refine S8 ?_ | refine S9 ?_ | refine S10 ?_ | refine S11 ?_ | refine S13 ?_ | refine S15 ?_ | refine S16 ?_ | refine S19 ?_ | refine S20 ?_ | refine S21 ?_ | refine S22 ?_ | refine S23 ?_ | refine S24 ?_ | refine S25 ?_ | refine S26 ?_ | refine S27 ?_ | refine S29 ?_ | refine S42 ?_ | refine S45 ?_ | refine S46 ?_ | refine S49 ?_ | refine S63 ?_ | refine S67 ?_ | refine S69 ?_)
  obtain ⟨tf, htf⟩ : ∃ tf, tf = h.tok true := ⟨_, rfl⟩
  have htn : tf = 2 * h.next + 1 := by rw [htf, HP.tokT]
  rw [← htf]
  refine CW.ownC (h := h.add true [pint n, pint 0, .lst true 0 0 []]) (cs := [pint n, pint 0, .lst true 0 0 []]) tf 2 1 (s' := 0) (by rw [htf]; exact HP.add_same _ _ _) rfl (by show tf < 2 * (h.next + 1); omega) ?_
  obtain ⟨T0, hT0⟩ : ∃ T0, T0 = (h.add true [pint n, pint 0, .lst true 0 0 []]).tok false := ⟨_, rfl⟩
  have hT0n : T0 = 2 * (h.next + 1) := by rw [hT0, HP.tokF]; rfl
  rw [← hT0]
  have b0 : (((h.add true [pint n, pint 0, .lst true 0 0 []]).add false []).set tf ([pint n, pint 0, PV.lst true 0 0 []].set 2 (.ref T0 0 1 0))).blk tf = some [pint n, pint 0, .ref T0 0 1 0] := HP.set_same _ _ _
  have bT : (((h.add true [pint n, pint 0, .lst true 0 0 []]).add false []).set tf ([pint n, pint 0, PV.lst true 0 0 []].set 2 (.ref T0 0 1 0))).blk T0 = some [] := by
    refine (HP.set_other _ _ (by omega)).trans ?_
    rw [hT0]; exact HP.add_same _ _ _
  have bn : (((h.add true [pint n, pint 0, .lst true 0 0 []]).add false []).set tf ([pint n, pint 0, PV.lst true 0 0 []].set 2 (.ref T0 0 1 0))).next = h.next + 2 := rfl
  generalize ((h.add true [pint n, pint 0, .lst true 0 0 []]).add false []).set tf ([pint n, pint 0, PV.lst true 0 0 []].set 2 (.ref T0 0 1 0)) = X at *
  repeat (first | refine S0 ?_ | refine S1 ?_ | refine S2 ?_ | refine S3 ?_ | refine S4 ?_ | refine S5 ?_ | refine S6 ?_ | refine S7 ?_ | refine S8 ?_ | refine S9 ?_ | refine S10 ?_ | refine S11 ?_ | refine S13 ?_ | refine S15 ?_ | refine S16 ?_ | refine S19 ?_ | refine S20 ?_ | refine S21 ?_ | refine S22 ?_ | refine S23 ?_ | refine S24 ?_ | refine S25 ?_ | refine S26 ?_ | refine S27 ?_ | refine S29 ?_ | refine S42 ?_ | refine S45 ?_ | refine S46 ?_ | refine S49 ?_ | refine S63 ?_ | refine S67 ?_ | refine S69 ?_)
  refine CW.loopS (fun i : Nat × Int × Nat × Fam × Nat × Nat × (Nat → Nat) => i.1 ≤ w.length) (fun i => [(5, .ptr tf 0), (11, pli w), (12, pint w.length), (13, pint i.1)]) (fun i hp => Frm n (w.take i.1) i.2.1 i.2.2.1 i.2.2.2.1 tf i.2.2.2.2.1 i.2.2.2.2.2.1 i.2.2.2.2.2.2 hp) (fun i => w.length - i.1) (0, 0, 0, (fun _ => id), T0, 0, fun _ => 0) ⟨Nat.zero_le _, SLx, .nil _, b0, ⟨⟨[], bT, Nat.le_refl _, fun j hj => absurd hj (Nat.not_lt_zero _)⟩, fun j hj => absurd hj (Nat.not_lt_zero _), fun i j hi => absurd hi (Nat.not_lt_zero _), fun j hj => absurd hj (Nat.not_lt_zero _), fun j hj => absurd hj (Nat.not_lt_zero _), by simp only; omega, fun j hj => absurd hj (Nat.not_lt_zero _), by simp only; omega⟩, by simp only; omega⟩ ?_
  rintro ⟨i, k, m, G, T, off, tk⟩ t hp hi ⟨hS, bv, bF, bl⟩
  simp only at hi hS bv bF
  first | simp only [updS] | simp only [updL, Nat.reduceAdd]
  by_cases hi2 : i < w.length
  · obtain ⟨x, hx⟩ : ∃ x, x = w.getD i 0 := ⟨_, rfl⟩
    have hlx := wd_let hw x (by rw [hx, getD_lt 0 hi2]; exact List.getElem_mem hi2)
    obtain ⟨q1, q2, q3, q4, q5⟩ := hS.all hn6
    have hlt : (w.take i).length = i := by rw [List.length_take]; omega
    rw [hlt] at q4 q5
    have ka := add_e (x := x) ⟨by omega, hn6⟩ (by omega) (by omega) hlx q2.isP hp bv bF (by omega) bl
    have hstep : w.take (i + 1) = w.take i ++ [x] := by rw [hx]; exact take_one hi2
    repeat (first | refine S0 ?_ | refine S1 ?_ | refine S2 ?_ | refine S3 ?_ | refine S4 ?_ | refine S5 ?_ | refine S6 ?_ | refine S7 ?_ | refine S8 ?_ | refine S9 ?_ | refine S10 ?_ | refine S11 ?_ | refine S13 ?_ | refine S15 ?_ | refine S16 ?_ | refine S19 ?_ | refine S20 ?_ | refine S21 ?_ | refine S22 ?_ | refine S23 ?_ | refine S24 ?_ | refine S25 ?_ | refine S26 ?_ | refine S27 ?_ | refine S29 ?_ | refine S42 ?_ | refine S45 ?_ | refine S46 ?_ | refine S49 ?_ | refine S63 ?_ | refine S67 ?_ | refine S69 ?_)
    rw [← hx]
    refine Scalle (args := [.ptr tf 0, pint x]) ka ?_
    rintro r h' ⟨k', m', G', T', off', tk', r1, r2, r3, r4⟩
    repeat (first | refine S0 ?_ | refine S1 ?_ | refine S2 ?_ | refine S3 ?_ | refine S4 ?_ | refine S5 ?_ | refine S6 ?_ | refine S7 ?_ | refine S8 ?_ | refine S9 ?_ | refine S10 ?_ | refine S11 ?_ | refine S13 ?_ | refine S15 ?_ | refine S16 ?_ | refine S19 ?_ | refine S20 ?_ | refine S21 ?_ | refine S22 ?_ | refine S23 ?_ | refine S24 ?_ | refine S25 ?_ | refine S26 ?_ | refine S27 ?_ | refine S29 ?_ | refine S42 ?_ | refine S45 ?_ | refine S46 ?_ | refine S49 ?_ | refine S63 ?_ | refine S67 ?_ | refine S69 ?_)
    refine ⟨(i + 1, k', m', G', T', off', tk'), hi2, SLx, ⟨?_, r2, r3, r4⟩, by simp only; omega⟩
    simp only
    rw [hstep]
    exact hS.snoc hlx.1 hlx.2 r1
  · have e : i = w.length := by omega
    rw [e, List.take_length] at hS
    repeat (first | refine S0 ?_ | refine S1 ?_ | refine S2 ?_ | refine S3 ?_ | refine S4 ?_ | refine S5 ?_ | refine S6 ?_ | refine S7 ?_ | refine S8 ?_ | refine S9 ?_ | refine S10 ?_ | refine S11 ?_ | refine S13 ?_ | refine S15 ?_ | refine S16 ?_ | refine S19 ?_ | refine S20 ?_ | refine S21 ?_ | refine S22 ?_ | refine S23 ?_ | refine S24 ?_ | refine S25 ?_ | refine S26 ?_ | refine S27 ?_ | refine S29 ?_ | refine S42 ?_ | refine S45 ?_ | refine S46 ?_ | refine S49 ?_ | refine S63 ?_ | refine S67 ?_ | refine S69 ?_)
    exact ⟨.inr rfl, _, ⟨_, rfl, rfl⟩, tf, k, m, G, T, off, tk, rfl, by omega, by omega, hS, bv, bF, bl⟩
/-- the factors as the program returns them -/
def ptts (l : List (List Int)) : PV := .lst true 1 l.length (l.map pli)
def fcs (n m : Nat) (G : Fam) : List (List Int) := (lst m G).map (tabN n)
theorem fcs_len (n m : Nat) (G : Fam) : (fcs n m G).length = m := by simp [fcs, lst]
section
variable {P : Program} {T : TypeId → TI} {M : Hn} {t : Nat → PV} {h : HP} {cl : Oper → Cls} {ops : Array Oper} {l : List Oper} {K : AS → Prop} {d : Nat} {ty : TypeId} {pos : String} {aft : Array Edge}
end
end Go.Proofs.Ytgjfpmjllpgadaa

/- How long the images under braids become: permutations and their inverses, powers of the half twist. Plain facts: nothing of the program is here. -/
set_option linter.unusedVariables false
set_option linter.unusedSimpArgs false
namespace Go.Proofs.Ytgjfpmjllpgadaa

theorem red_le (u : List Int) : (red u).length ≤ u.length := by rw [red_short]; exact short_len u
/-- no image of a generator is longer than B -/
def Lb (n : Int) (w : List Int) (B : Nat) : Prop := ∀ x, 1 ≤ x ∧ x ≤ n → (img w [x]).length ≤ B
theorem Lb.mono {n : Int} {w : List Int} {B C : Nat} (h : Lb n w B) (hBC : B ≤ C) : Lb n w C := fun x hx => Nat.le_trans (h x hx) hBC
theorem Lb.we {n : Int} {a b : List Int} {B : Nat} (h : Lb n a B) (he : WE n a b) : Lb n b B := fun x hx => by
  rw [← he [x] (inr_one hx) trivial]; exact h x hx
theorem flat_le {h : Int → List Int} {B : Nat} : ∀ {u : List Int}, (∀ z ∈ u, (h z).length ≤ B) → (u.flatMap h).length ≤ u.length * B
  | [], _ => by simp
  | z :: u, hz => by
    have h1 := hz z (by simp)
    have ih := flat_le (u := u) (fun y hy => hz y (by simp [hy]))
    rw [List.flatMap_cons, List.length_append, List.length_cons, Nat.succ_mul]
    omega
theorem Lb.app {n : Int} {a b : List Int} {A B : Nat} (ha : brd n a) (hb : brd n b) (h1 : Lb n a A) (h2 : Lb n b B) : Lb n (a ++ b) (A * B) := fun x hx => by
  rw [img_app, img_hom hb (inr_img ha (inr_one hx)) (rd_img (u := [x]) trivial)]
  refine Nat.le_trans (red_le _) (Nat.le_trans (flat_le (B := B) (fun z hz => ?_)) (Nat.mul_le_mul_right B (h1 x hx)))
  have hz2 := inr_img ha (inr_one hx) z hz
  unfold hom
  split
  · have : (invW (prg b (-z))).length = (prg b (-z)).length := by simp [invW]
    rw [this, ← img_one hb (by omega : 1 ≤ -z ∧ -z ≤ n)]
    exact h2 _ (by omega)
  · split
    · simp
    · rw [← img_one hb (by omega : 1 ≤ z ∧ z ≤ n)]
      exact h2 _ (by omega)
theorem Lb.nil {n : Int} : Lb n [] 1 := fun x _ => by simp [img]
/-- some letters more -/
theorem Lb.more {n : Int} {a c : List Int} {A : Nat} (ha : brd n a) (hc : brd n c) (h : Lb n a A) : Lb n (a ++ c) (2 ^ c.length * (A + 1) - 1) := fun x hx => by
  have h1 := img_len (w := c) (u := img a [x]) hc
  have h2 := h x hx
  rw [img_app]
  have h3 : 2 ^ c.length * ((img a [x]).length + 1) ≤ 2 ^ c.length * (A + 1) := Nat.mul_le_mul_left _ (by omega)
  omega
/-! ### inverse permutations -/
/-- the places of a list that hold less than v -/
def sel (f : Nat → Nat) (v : Nat) (l : List Nat) : List Int := (l.filter fun q => decide (f q < v)).map fun (q : Nat) => (q : Int) + 1
def aft (n : Nat) (f : Nat → Nat) (p : Nat) : List Int := sel f (f p) (List.range' (p + 1) (n - 1 - p))
def cjW (n : Nat) (f : Nat → Nat) (p : Nat) : List Int := invW (aft n f p) ++ ([(p : Int) + 1] ++ aft n f p)
end Go.Proofs.Ytgjfpmjllpgadaa

/- The plain law of TopCrossings: permutations of words, their signs. Nothing of the program is here. -/
set_option linter.unusedVariables false
set_option linter.unusedSimpArgs false
namespace Go.Proofs.Ytgjfpmjllpgadaa

theorem tau_lt_iff {i x y : Nat} (hi : 1 ≤ i) (hxy : x ≠ y) (h : ¬ (x + 1 = i ∧ y = i) ∧ ¬ (y + 1 = i ∧ x = i)) : tau i x < tau i y ↔ x < y := by
  unfold tau
  split <;> split <;> (try split) <;> (try split) <;> omega
theorem ivc_id : ∀ m, ivc (fun j => j) m = 0
  | 0 => rfl
  | m + 1 => by
    show ivc (fun j => j) m + cnt _ m = 0
    rw [ivc_id m, cnt_zero (fun k hk => by simp; omega)]
theorem Wd.isP {n : Nat} {w : List Int} (h : Wd n w) : ∀ k, k ≤ w.length → IsP (eAt w k) n := fun k hk =>
  ⟨fun i hi => h.e_lt k hk i hi, fun i j _ _ e => by
    have := congrArg (fAt w k) e
    rwa [h.fe k hk, h.fe k hk] at this⟩
end Go.Proofs.Ytgjfpmjllpgadaa

/- The word of a permutation: its length, where the strands go, its form. Plain facts: nothing of the program is here. -/
set_option linter.unusedVariables false
set_option linter.unusedSimpArgs false
namespace Go.Proofs.Ytgjfpmjllpgadaa

theorem cnt_tau {p : Nat → Bool} {i : Nat} : ∀ {m : Nat}, i + 1 < m → cnt (fun j => p (tau (i + 1) j)) m = cnt p m
  | m + 1, h => by
    by_cases e : i + 1 = m
    · subst e
      simp only [cnt, tau_at1, tau_at]
      rw [cnt_congr (p := fun j => p (tau (i + 1) j)) (q := p) (fun k hk => by rw [tau_ot (by omega) (by omega)])]
      omega
    · have e1 : tau (i + 1) m = m := tau_ot (by omega) (by omega)
      simp only [cnt, e1]
      rw [cnt_tau (by omega)]
/-- a descent less -/
theorem ivc_psw {f : Nat → Nat} {i : Nat} (hd : f (i + 1) < f i) : ∀ {m : Nat}, i + 1 < m → ivc (psw f i) m + 1 = ivc f m
  | m + 1, h => by
    by_cases e : i + 1 = m
    · subst e
      simp only [ivc, cnt, psw_at1, psw_at]
      have e1 : ivc (psw f i) i = ivc f i := ivc_congr (fun k hk => psw_ot (by omega) (by omega))
      have e2 : ∀ a : Nat, cnt (fun j => decide (a < psw f i j)) i = cnt (fun j => decide (a < f j)) i := fun a => cnt_congr (fun k hk => by rw [psw_ot (by omega) (by omega)])
      rw [e1, e2, e2]
      simp only [decide_eq_true_eq]
      rw [if_neg (by omega), if_pos hd]
      omega
    · have ih := ivc_psw hd (m := m) (by omega)
      have e0 : psw f i m = f m := psw_ot (by omega) (by omega)
      simp only [ivc, e0]
      have := cnt_tau (p := fun j => decide (f m < f j)) (i := i) (m := m) (by omega)
      have e2 : cnt (fun j => decide (f m < psw f i j)) m = cnt (fun j => decide (f m < f j)) m := this
      rw [e2]
      omega
/-- a crossing of neighbours more -/
theorem ivc_vsw {f : Nat → Nat} {n v x y : Nat} (hf : IsP f n) (hxy : x < y) (hy : y < n) (hx1 : f x = v) (hy1 : f y = v + 1) : ivc (vsw f v) n = ivc f n + 1 := by
  have key : ∀ m, m ≤ n → ivc (vsw f v) m = ivc f m + if y < m then 1 else 0 := by
    intro m
    induction m with
    | zero => intro _; simp [ivc]
    | succ m ih =>
      intro hm
      have ih := ih (by omega)
      have sp : ∀ j k, j < n → k < n → j < k → ¬ (j = x ∧ k = y) → (vsw f v k < vsw f v j ↔ f k < f j) := fun j k hj hk hjk hne => by
        unfold vsw
        refine tau_lt_iff (by omega) (fun e => by have := hf.inj _ _ hk hj e; omega) ⟨fun h => ?_, fun h => ?_⟩
        · have e1 := hf.inj k x hk (by omega) (by omega)
          have e2 := hf.inj j y hj hy (by omega)
          omega
        · have e1 := hf.inj j x hj (by omega) (by omega)
          have e2 := hf.inj k y hk hy (by omega)
          exact hne ⟨e1, e2⟩
      rw [show ivc (vsw f v) (m + 1) = ivc (vsw f v) m + cnt (fun j => decide (vsw f v m < vsw f v j)) m from rfl, show ivc f (m + 1) = ivc f m + cnt (fun j => decide (f m < f j)) m from rfl]
      by_cases hmy : m = y
      · subst hmy
        have hd := cnt_diff (p := fun j => decide (vsw f v m < vsw f v j)) (q := fun j => decide (f m < f j)) (u := x) (m := m) hxy (fun j hj hne => decide_eq_decide.2 (sp j m (by omega) hy hj (fun h => hne h.1)))
        have h1 : vsw f v m < vsw f v x := by unfold vsw; rw [hx1, hy1, tau_at, tau_at1]; omega
        have h2 : ¬ f m < f x := by omega
        simp only [decide_eq_true_eq, h1, h2, if_true, if_false] at hd
        rw [if_neg (by omega)] at ih
        rw [if_pos (by omega)]; omega
      · have hc : cnt (fun j => decide (vsw f v m < vsw f v j)) m = cnt (fun j => decide (f m < f j)) m := cnt_congr (fun j hj => decide_eq_decide.2 (sp j m (by omega) (by omega) hj (fun h => hmy h.2)))
        rw [hc]
        by_cases hlt : y < m
        · rw [if_pos hlt] at ih; rw [if_pos (by omega)]; omega
        · rw [if_neg hlt] at ih; rw [if_neg (by omega)]; omega
  have := key n (Nat.le_refl _)
  rwa [if_pos hy] at this
theorem ivc_one {n : Nat} {f : Nat → Nat} (h : isOne n f) : ivc f n = 0 := by
  rw [ivc_congr (g := fun j => j) (fun k hk => h k hk), ivc_id]
/-- THE LENGTH OF THE WORD -/
theorem spw_len {n : Nat} (hn : n ≤ 6) : ∀ (N : Nat) (f : Nat → Nat), IsP f n → mu (tabN n f) ≤ N → (spw n f).length = ivc f n
  | 0, f, h, hm => by have := (isP_ent h hn).mu; omega
  | N + 1, f, h, hm => by
    cases hd : desc (tabN n f) with
    | none =>
      have hid : ∀ i, i < n → f i = i := inc_id h (fun i hi hlt => by obtain ⟨j, hj, _⟩ := desc_ex hi hlt; rw [hd] at hj; cases hj)
      rw [spw_congr hid, ivc_one hid]
      show (spw n id).length = 0
      rw [spw_id hn]; rfl
    | some j =>
      obtain ⟨j1, j2⟩ := desc_tab hd
      have mj := mu_psw h hn j1 j2
      rw [spw_some h hn hd, List.length_cons, spw_len hn N _ (psw_isP h j1) (by omega), ivc_psw j2 j1]
/-- the form of the first letters of the word of a permutation -/
structure One (n : Nat) (e : Nat → Nat) (k : Int) (m : Nat) (G : Fam) : Prop where
  tw : isTw n e → k = 1 ∧ m = 0
  ot : ¬ isTw n e → k = 0 ∧ m = 1 ∧ ∀ i, i < n → G 0 i = e i
theorem st_nil {n : Nat} {k : Int} {m : Nat} {G : Fam} (h : St n [] k m G) : k = 0 ∧ m = 0 := by
  generalize hw : ([] : List Int) = w at h
  cases h with
  | nil => exact ⟨rfl, rfl⟩
  | snoc => simp at hw
theorem spw_pos {n : Nat} (hn : n ≤ 6) : ∀ (N : Nat) (f : Nat → Nat), IsP f n → mu (tabN n f) ≤ N → ∀ x ∈ spw n f, 1 ≤ x ∧ x < n
  | 0, f, h, hm => by have := (isP_ent h hn).mu; omega
  | N + 1, f, h, hm => by
    intro x hx
    cases hd : desc (tabN n f) with
    | none => unfold spw at hx; rw [spell_none (isP_ent h hn) hd] at hx; cases hx
    | some j =>
      obtain ⟨j1, j2⟩ := desc_tab hd
      have mj := mu_psw h hn j1 j2
      rw [spw_some h hn hd] at hx
      rcases List.mem_cons.1 hx with rfl | hx
      · omega
      · exact spw_pos hn N _ (psw_isP h j1) (by omega) x hx
end Go.Proofs.Ytgjfpmjllpgadaa

/- No image on the way from a word to its normal form is too long. Plain facts: nothing of the program is here. -/
set_option linter.unusedVariables false
set_option linter.unusedSimpArgs false
namespace Go.Proofs.Ytgjfpmjllpgadaa

/-- after a, and after each letter of c, no image is longer than B -/
def PB (n : Int) (a c : List Int) (B : Nat) : Prop := ∀ t, t ≤ c.length → Lb n (a ++ c.take t) B
theorem PB.app {n : Int} {a u v : List Int} {B : Nat} (h1 : PB n a u B) (h2 : PB n (a ++ u) v B) : PB n a (u ++ v) B := fun t ht => by
  rw [List.length_append] at ht
  by_cases h : t ≤ u.length
  · rw [List.take_append_of_le_length h]; exact h1 t h
  · have := h2 (t - u.length) (by omega)
    rwa [List.append_assoc, show u ++ v.take (t - u.length) = (u ++ v).take t by rw [List.take_append, List.take_of_length_le (show u.length ≤ t by omega)]] at this
theorem PB.letters {n : Int} {a c : List Int} {A B : Nat} (ha : brd n a) (hc : brd n c) (h : Lb n a A) (hB : 2 ^ c.length * (A + 1) ≤ B + 1) : PB n a c B := fun t ht => by
  have hct : brd n (c.take t) := fun z hz => hc z (List.mem_of_mem_take hz)
  refine (h.more ha hct).mono ?_
  have h1 : (c.take t).length ≤ c.length := by rw [List.length_take]; omega
  have h2 : 2 ^ (c.take t).length * (A + 1) ≤ 2 ^ c.length * (A + 1) := Nat.mul_le_mul_right _ (Nat.pow_le_pow_right (by decide) h1)
  omega
theorem PB.nil {n : Int} {a : List Int} {B : Nat} (h : Lb n a B) : PB n a [] B := fun t _ => by simpa using h
def chkL (n : Nat) (w : List Int) (B : Nat) : Bool := (List.range n).all fun x => Nat.ble (img w [((x : Nat) : Int) + 1]).length B
theorem St.m_le {n : Nat} {w : List Int} {k : Int} {m : Nat} {G : Fam} (h : St n w k m G) : m ≤ w.length := by
  induction h with
  | nil G => simp
  | snoc h1 hx hx2 hs ih =>
    have := hs.bd
    rw [List.length_append, List.length_singleton]
    split at this <;> omega
end Go.Proofs.Ytgjfpmjllpgadaa
