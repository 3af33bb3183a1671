/- Facts and contracts that the claim uses. No condition of its own. -/
import Derived.Test.YtdlpbpfcgjgppaaGJonesStatesBJ
import Derived.Test.YtdlpbpfcgjgppaaGJonesStatesAY
import Derived.Test.YtdlpbpfcgjgppaaGJonesStatesAT
import Derived.Test.YtdlpbpfcgjgppaaGJonesStatesBD
import Derived.Test.YtdlpbpfcgjgppaaGJonesStatesBE
import Derived.Test.YtdlpbpfcgjgppaaGJonesStatesAU
set_option linter.unusedVariables false
set_option linter.unusedSimpArgs false
namespace Go.Proofs.Ytdlpbpfcgjgppaa
theorem sumE_perm {F : List Int → LP} {L L' : List StE} (h : L.Perm L') : sumE F L = sumE F L' := by
  induction h with
  | nil => rfl
  | cons x _ ih => show x.2 * F x.1 + _ = x.2 * F x.1 + _; rw [ih]
  | swap x y l => show y.2 * F y.1 + (x.2 * F x.1 + sumE F l) = x.2 * F x.1 + (y.2 * F y.1 + sumE F l); ac_rfl
  | trans _ _ h1 h2 => rw [h1, h2]
noncomputable def col (L : List StE) (D : List Int) : LP := sumE (fun D' => if D' = D then 1 else 0) L
theorem col_nil (D : List Int) : col [] D = 0 := rfl
theorem col_app (a b : List StE) (D : List Int) : col (a ++ b) D = col a D + col b D := sumE_app _ a b
theorem col_one (e : StE) (D : List Int) : col [e] D = if e.1 = D then e.2 else 0 := by
  show e.2 * (if e.1 = D then 1 else 0) + 0 = _
  rw [LP.add_zero]
  split
  · exact LP.mul_one _
  · exact LP.mul_zero _
structure Dst (n : Nat) (Ds : List (List Int)) (L : List StE) : Prop where
  nd : Ds.Nodup
  ok : ∀ D ∈ Ds, Mt n (fnL D) ∧ D = tabN (2 * n) (fnL D)
  all : ∀ e ∈ L, e.1 ∈ Ds
noncomputable def grp (Ds : List (List Int)) (L : List StE) : List StE := Ds.map fun D => (D, col L D)
theorem one_of {F : List Int → LP} {c : LP} {E : List Int} : ∀ {Ds : List (List Int)}, Ds.Nodup → E ∈ Ds → sumE F (Ds.map fun D => (D, c * if E = D then 1 else 0)) = c * F E := by
  intro Ds
  induction Ds with
  | nil => intro _ h; cases h
  | cons D Ds ih =>
    intro hn hE
    rw [List.nodup_cons] at hn
    show (c * if E = D then 1 else 0) * F D + sumE F _ = _
    by_cases e : E = D
    · subst e
      rw [if_pos rfl, LP.mul_one]
      have z : ∀ (l : List (List Int)), E ∉ l → sumE F (l.map fun D => (D, c * if E = D then 1 else 0)) = 0 := fun l hl => by
        induction l with
        | nil => rfl
        | cons a l ih2 =>
          show (c * if E = a then 1 else 0) * F a + sumE F _ = 0
          rw [if_neg (fun e => hl (by rw [e]; simp)), ih2 (fun h => hl (by simp [h])), LP.mul_zero, LP.zero_mul, LP.add_zero]
      rw [z _ hn.1, LP.add_zero]
    · rw [if_neg e, LP.mul_zero, LP.zero_mul, LP.zero_add]
      exact ih hn.2 ((List.mem_cons.1 hE).resolve_left e)
theorem grp_add {F : List Int → LP} (f g : List Int → LP) : ∀ Ds : List (List Int), sumE F (Ds.map fun D => (D, f D + g D)) = sumE F (Ds.map fun D => (D, f D)) + sumE F (Ds.map fun D => (D, g D))
  | [] => (LP.add_zero _).symm
  | D :: Ds => by
    show (f D + g D) * F D + sumE F _ = (f D * F D + sumE F _) + (g D * F D + sumE F _)
    rw [grp_add f g Ds, LP.add_mul]; ac_rfl
theorem grp_sum {F : List Int → LP} {Ds : List (List Int)} (hn : Ds.Nodup) : ∀ {L : List StE}, (∀ e ∈ L, e.1 ∈ Ds) → sumE F (grp Ds L) = sumE F L
  | [], _ => by
    have z : ∀ Ds : List (List Int), sumE F (Ds.map fun D => (D, col [] D)) = 0 := fun Ds => by
      induction Ds with
      | nil => rfl
      | cons D Ds ih => show col [] D * F D + sumE F _ = 0; rw [col_nil, LP.zero_mul, LP.zero_add]; exact ih
    exact z Ds
  | e :: L, h => by
    have e1 : grp Ds (e :: L) = Ds.map fun D => (D, (e.2 * if e.1 = D then 1 else 0) + col L D) := rfl
    rw [e1, grp_add, one_of hn (h e (by simp))]
    show e.2 * F e.1 + sumE F (grp Ds L) = e.2 * F e.1 + sumE F L
    rw [grp_sum hn fun e he => h e (by simp [he])]
noncomputable def two (n : Nat) (x : Int) (e : StE) : List StE := [chS n x e false, chS n x e true]
noncomputable def chF (n : Nat) (x : Int) (F : List Int → LP) (D : List Int) : LP :=
  LP.mono 1 (chW x false) * dpow (putD n D (chM n x false)).2 * F (putD n D (chM n x false)).1 + LP.mono 1 (chW x true) * dpow (putD n D (chM n x true)).2 * F (putD n D (chM n x true)).1
theorem two_sum (n : Nat) (x : Int) (F : List Int → LP) (e : StE) : sumE F (two n x e) = e.2 * chF n x F e.1 := by
  show e.2 * (_ * _) * F _ + (e.2 * (_ * _) * F _ + 0) = _
  rw [LP.add_zero]
  unfold chF
  rw [LP.mul_add]
  ac_rfl
theorem twos_sum (n : Nat) (x : Int) (F : List Int → LP) : ∀ L : List StE, sumE F (L.flatMap (two n x)) = sumE (chF n x F) L
  | [] => rfl
  | e :: L => by
    rw [List.flatMap_cons, sumE_app, two_sum, twos_sum n x F L]
    rfl
theorem letter_sum {n : Nat} {Ds : List (List Int)} {L La : List StE} (hn : Ds.Nodup) (hL : ∀ e ∈ L, e.1 ∈ Ds) (x : Int) (hp : La.Perm (grp Ds L)) (F : List Int → LP) : sumE F (La.flatMap (two n x)) = sumE F (L.flatMap (two n x)) := by
  rw [twos_sum, twos_sum, sumE_perm hp, grp_sum hn hL]
theorem letter_keys {n : Nat} {Ds Da : List (List Int)} {L La : List StE} (hL : ∀ e ∈ L, e.1 ∈ Ds) (x : Int) (hp : La.Perm (grp Ds L)) (hA : ∀ e ∈ La.flatMap (two n x), e.1 ∈ Da) : ∀ e ∈ L.flatMap (two n x), e.1 ∈ Da := fun e he => by
  obtain ⟨e0, h0, he⟩ := List.mem_flatMap.1 he
  have h1 : (e0.1, col L e0.1) ∈ La := hp.mem_iff.2 (List.mem_map.2 ⟨e0.1, hL e0 h0, rfl⟩)
  have k : ∀ b, (chS n x e0 b).1 = (chS n x (e0.1, col L e0.1) b).1 := fun b => rfl
  simp only [two, List.mem_cons, List.not_mem_nil, or_false] at he
  rcases he with rfl | rfl
  · rw [k]; exact hA _ (List.mem_flatMap.2 ⟨_, h1, by simp [two]⟩)
  · rw [k]; exact hA _ (List.mem_flatMap.2 ⟨_, h1, by simp [two]⟩)
end Go.Proofs.Ytdlpbpfcgjgppaa

/- Facts and contracts that the claim uses. No condition of its own. -/
set_option linter.unusedVariables false
set_option linter.unusedSimpArgs false
namespace Go.Proofs.Ytdlpbpfcgjgppaa
open Go.RowKit
def jTab : List (FuncId × Hn) := [(29, {}), (31, {}), (49, {}), (50, {})]
theorem jTab_ok : FOk Try.prog (tabE Try.prog jTab) := fokB_s (by kernel_rfl)
set_option maxRecDepth 100000 in
theorem jone_s {n : Nat} (h : 1 ≤ n ∧ n ≤ 6) : SC Try.prog 49 [pint n] (pli (tabN (2 * n) (oneM n))) := by
  rcases le6' h with rfl | rfl | rfl | rfl | rfl | rfl <;> exact evP_s tok mixed jTab_ok delLib_ok 1000 (by kernel_rfl)
set_option maxRecDepth 100000 in
theorem jstr_s {n : Nat} (h : 1 ≤ n ∧ n ≤ 6) : SC Try.prog 29 [pint n] (pli (tabN (2 * n) (oneM n))) := by
  rcases le6' h with rfl | rfl | rfl | rfl | rfl | rfl <;> exact evP_s tok mixed jTab_ok delLib_ok 1000 (by kernel_rfl)
set_option maxRecDepth 100000 in
theorem jcup_s {n i : Nat} (hn : n ≤ 6) (hi : 1 ≤ i ∧ i < n) : SC Try.prog 50 [pint n, pint i] (pli (tabN (2 * n) (cupM n (i - 1)))) := by
  refine ni_all (Q := fun n i => SC Try.prog 50 [pint n, pint i] (pli (tabN (2 * n) (cupM n (i - 1))))) ?_ hn hi
  refine ⟨?_, ?_, ?_, ?_, ?_, ?_, ?_, ?_, ?_, ?_, ?_, ?_, ?_, ?_, ?_⟩ <;> exact evP_s tok mixed jTab_ok delLib_ok 1000 (by kernel_rfl)
set_option maxRecDepth 100000 in
theorem jhook_s {n i : Nat} (hn : n ≤ 6) (hi : 1 ≤ i ∧ i < n) : SC Try.prog 31 [pint n, pint i] (pli (tabN (2 * n) (cupM n (i - 1)))) := by
  refine ni_all (Q := fun n i => SC Try.prog 31 [pint n, pint i] (pli (tabN (2 * n) (cupM n (i - 1))))) ?_ hn hi
  refine ⟨?_, ?_, ?_, ?_, ?_, ?_, ?_, ?_, ?_, ?_, ?_, ?_, ?_, ?_, ?_⟩ <;> exact evP_s tok mixed jTab_ok delLib_ok 1000 (by kernel_rfl)
end Go.Proofs.Ytdlpbpfcgjgppaa

/- Facts and contracts that the claim uses. No condition of its own. -/
set_option linter.unusedVariables false
set_option linter.unusedSimpArgs false
namespace Go.Proofs.Ytdlpbpfcgjgppaa
open Go.RowKit
def pk (D : List Int) : List Int := D ++ List.replicate (12 - D.length) 0
theorem pk_len {D : List Int} (h : D.length ≤ 12) : (pk D).length = 12 := by simp [pk]; omega
theorem pk_inj {D E : List Int} (hl : D.length = E.length) (h : pk D = pk E) : D = E := List.append_inj_left h hl
theorem dlt_sup : Sup 2 dlt := by
  unfold dlt
  exact (Sup.monom _ _ (by omega)).add (Sup.monom _ _ (by omega))
theorem dpow_sup : ∀ k : Nat, Sup ((2 * k : Nat) : Int) (dpow k)
  | 0 => Sup.one (by omega)
  | k + 1 => (dpow_sup k).mul (C := 2) dlt_sup
set_option maxHeartbeats 4000000 in
set_option maxRecDepth 100000 in
theorem jkey_s {D : List Int} (hn : D.length ≤ 12) : SC Try.prog 48 [pli D] (.agg (ints (pk D))) := by
  have hl := pk_len hn
  refine SC.go {} tok mixed Try.func48 rfl rfl Try.ntmps48 rfl rfl (by kernel_rfl) ?_
  first | simp only [updS] | simp only [updL, Nat.reduceAdd]
  repeat (first | refine S0 ?_ | refine S1 ?_ | refine S2 ?_ | refine S7 ?_ | refine S8 ?_ | refine S19 ?_ | refine S48 ?_ | refine S68 ?_)
  refine AW.slArr (tk := 3) (len := 12) rfl EVx rfl HBx rfl (by omega) (by omega) ?_
  repeat (first | refine S0 ?_ | refine S1 ?_ | refine S2 ?_ | refine S7 ?_ | refine S8 ?_ | refine S19 ?_ | refine S48 ?_ | refine S68 ?_)
  have hr0 : ((List.replicate 12 (PV.sc (.int .i64 0))).take 0) ++ (ints D).take (min 12 D.length) ++ (List.replicate 12 (PV.sc (.int .i64 0))).drop (0 + min 12 D.length) = ints (pk D) := by
    have : min 12 D.length = D.length := by omega
    rw [this]
    unfold pk ints
    simp only [List.take_zero, List.nil_append, Nat.zero_add, List.drop_replicate, List.map_append, List.map_replicate]
    rw [List.take_of_length_le (by simp)]
  refine AW.cpy (m := 12) (m2 := D.length) (tk := 3) (off := 0) (r := ints (pk D)) (cs2 := (ints D).take (min 12 D.length * 1)) EVx (.inl rfl) rfl HBx (by simp only [evA, upd, putA, Nat.reduceEqDiff, ↓reduceIte, pli, lenA]) (by first | exact ⟨rfl, rfl, .inr rfl⟩ | exact ⟨rfl, rfl, .inl rfl⟩ | (simp only [evA, upd, putA, Nat.reduceEqDiff, ↓reduceIte]; first | exact ⟨rfl, rfl, .inr rfl⟩ | exact ⟨rfl, rfl, .inl rfl⟩)) (by simp) (fun p hp => ints_ones _ p (List.mem_of_mem_take hp)) (by rw [Nat.mul_one]; exact hr0) ?_
  have hil : (ints (pk D)).length = 12 := by rw [ints_length, hl]
  iterate 5 (first | refine S0 ?_ | refine S1 ?_ | refine S2 ?_ | refine S7 ?_ | refine S8 ?_ | refine S19 ?_ | refine S48 ?_ | refine S68 ?_)
  rw [show List.take 12 (ints (pk D)) = ints (pk D) by rw [List.take_of_length_le (by omega)]]
  refine AW.staR (r := ints (pk D)) EVx (by first | exact Or.inl rfl | exact Or.inr ⟨rfl, HP.tok_even _⟩ | exact Or.inr (Or.inl ⟨rfl, HP.tok_even _⟩) | exact Or.inr (Or.inr ⟨rfl, HP.tok_odd _⟩) | exact Or.inr (Or.inl rfl) | exact Or.inr (Or.inr (Or.inl rfl)) | exact Or.inr (Or.inr (Or.inr (Or.inl ⟨rfl, HP.tok_odd _⟩))) | exact Or.inr (Or.inr (Or.inr (Or.inr ⟨rfl, HP.tok_even _⟩))) | exact Or.inr (Or.inr (Or.inr (Or.inr ⟨rfl, by assumption⟩))) | exact Or.inr ⟨rfl, by assumption⟩ | exact Or.inr (Or.inl ⟨rfl, by assumption⟩) | exact Or.inr (Or.inr ⟨rfl, by assumption⟩) | exact Or.inr (Or.inr (Or.inr (Or.inl ⟨rfl, by assumption⟩))) | exact Or.inr (Or.inr (Or.inl ⟨rfl, HP.tok_odd _⟩)) | exact Or.inr (Or.inr (Or.inl ⟨rfl, by assumption⟩)) | exact Or.inr (Or.inr (Or.inr rfl)) | exact Or.inr (Or.inr rfl) | exact Or.inr rfl) EVx rfl HBx hil (by decide) (fun p hp => ints_ones _ p hp) (by simp [hil]) ?_
  repeat (first | refine S0 ?_ | refine S1 ?_ | refine S2 ?_ | refine S7 ?_ | refine S8 ?_ | refine S19 ?_ | refine S48 ?_ | refine S68 ?_)
  exact ⟨.inr rfl, FR.cell1 rfl HBx rfl hil (.cl (by simp only [PV.cl, ints_cl]))⟩
theorem trimD_s : SC Try.prog 55 [pint (-2), .lst true 1 5 [pint (-1), pint 0, pint 0, pint 0, pint (-1)]] (ppo (poW dlt)) := by
  have e : cano (co (-2, [-1, 0, 0, 0, -1])) = poW dlt := congrArg cano (funext fun x => by
    show _ = wrp ((LP.mono (-1) (-2)).f x + (LP.mono (-1) 2).f x)
    rw [LP.mono_f, LP.mono_f]
    by_cases h : -2 ≤ x ∧ x < 3
    · rcases (show x = -2 ∨ x = -1 ∨ x = 0 ∨ x = 1 ∨ x = 2 by omega) with rfl | rfl | rfl | rfl | rfl <;> rfl
    · rw [if_neg (by omega), if_neg (by omega)]
      by_cases h2 : x < -2
      · rw [co_lo (by simpa using h2)]; rfl
      · rw [co_hi (by simp; omega)]; rfl)
  rw [← e]
  exact SC.weak (trim_s (-2) [-1, 0, 0, 0, -1] (by omega) (by simp)) rfl
set_option maxHeartbeats 4000000 in
set_option maxRecDepth 100000 in
theorem power_s (k : Nat) (hk : k ≤ 1000) : SC Try.prog 53 [pint k] (ppo (poW (dpow k))) := by
  refine SC.go {} tok mixed Try.func53 rfl rfl Try.ntmps53 rfl rfl (by kernel_rfl) ?_
  first | simp only [updS] | simp only [updL, Nat.reduceAdd]
  repeat (first | refine S0 ?_ | refine S1 ?_ | refine S2 ?_ | refine S3 ?_ | refine S4 ?_ | refine S5 ?_ | refine S6 ?_ | refine S7 ?_ | refine S8 ?_ | refine S10 ?_ | refine S11 ?_ | refine S13 ?_ | refine S15 ?_ | refine S16 ?_ | refine S19 ?_ | refine S21 ?_ | refine S22 ?_ | refine S48 ?_ | refine S49 ?_ | refine S66 ?_ | refine S68 ?_)
  refine Scall (args := [pint 1, pint 0]) (termW_s 1 0 (by unfold in64; omega) (by omega)) ?_
  rw [← LP.one_eq]
  repeat (first | refine S0 ?_ | refine S1 ?_ | refine S2 ?_ | refine S3 ?_ | refine S4 ?_ | refine S5 ?_ | refine S6 ?_ | refine S7 ?_ | refine S8 ?_ | refine S10 ?_ | refine S11 ?_ | refine S13 ?_ | refine S15 ?_ | refine S16 ?_ | refine S19 ?_ | refine S21 ?_ | refine S22 ?_ | refine S48 ?_ | refine S49 ?_ | refine S66 ?_ | refine S68 ?_)
  refine CW.loopS (fun j : Nat => j ≤ k) (fun j => [(2, .ptr 1 0), (3, .ptr 3 0), (5, pint k), (6, pint j)]) (fun j hp => hp.blk 1 = some [pint 0, .lst true 0 0 []] ∧ hp.blk 3 = some [pint (poW (dpow j)).1, pli (poW (dpow j)).2] ∧ 2 ≤ hp.next) (fun j => k - j) 0 ⟨Nat.zero_le _, SLx, HBx, HBx, (by first | omega | (simp only [HP.tokF, HP.tokT, HP.next_add, HP.next_set, HP.next_kill, HP.next_H0, HP.next_addS, HP.next_setS, HP.next_killS, HP.next_put, HP.next_bump, HP.next_putS]; omega))⟩ ?_
  rintro j t hp hj ⟨hB1, hB3, hnx⟩
  first | simp only [updS] | simp only [updL, Nat.reduceAdd]
  by_cases hj2 : j < k
  · have ht := timesW_s (dpow j) dlt ((dpow_sup j).mono (by omega)) (dlt_sup.mono (by omega))
    have e : dpow j * dlt = dpow (j + 1) := rfl
    rw [e] at ht
    have h31 : 3 % 2 = 1 := rfl
    repeat (first | refine S0 ?_ | refine S1 ?_ | refine S2 ?_ | refine S3 ?_ | refine S4 ?_ | refine S5 ?_ | refine S6 ?_ | refine S7 ?_ | refine S8 ?_ | refine S10 ?_ | refine S11 ?_ | refine S13 ?_ | refine S15 ?_ | refine S16 ?_ | refine S19 ?_ | refine S21 ?_ | refine S22 ?_ | refine S48 ?_ | refine S49 ?_ | refine S66 ?_ | refine S68 ?_)
    refine Scall (args := [pint (-2), .lst true 1 5 [pint (-1), pint 0, pint 0, pint 0, pint (-1)]]) trimD_s ?_
    repeat (first | refine S0 ?_ | refine S1 ?_ | refine S2 ?_ | refine S3 ?_ | refine S4 ?_ | refine S5 ?_ | refine S6 ?_ | refine S7 ?_ | refine S8 ?_ | refine S10 ?_ | refine S11 ?_ | refine S13 ?_ | refine S15 ?_ | refine S16 ?_ | refine S19 ?_ | refine S21 ?_ | refine S22 ?_ | refine S48 ?_ | refine S49 ?_ | refine S66 ?_ | refine S68 ?_)
    refine Scall (args := [ppo (poW (dpow j)), ppo (poW dlt)]) ht ?_
    repeat (first | refine S0 ?_ | refine S1 ?_ | refine S2 ?_ | refine S3 ?_ | refine S4 ?_ | refine S5 ?_ | refine S6 ?_ | refine S7 ?_ | refine S8 ?_ | refine S10 ?_ | refine S11 ?_ | refine S13 ?_ | refine S15 ?_ | refine S16 ?_ | refine S19 ?_ | refine S21 ?_ | refine S22 ?_ | refine S48 ?_ | refine S49 ?_ | refine S66 ?_ | refine S68 ?_)
    exact ⟨j + 1, hj2, SLx, ⟨HBx, HBx, (by first | omega | (simp only [HP.tokF, HP.tokT, HP.next_add, HP.next_set, HP.next_kill, HP.next_H0, HP.next_addS, HP.next_setS, HP.next_killS, HP.next_put, HP.next_bump, HP.next_putS]; omega))⟩, by omega⟩
  · obtain rfl : j = k := by omega
    repeat (first | refine S0 ?_ | refine S1 ?_ | refine S2 ?_ | refine S3 ?_ | refine S4 ?_ | refine S5 ?_ | refine S6 ?_ | refine S7 ?_ | refine S8 ?_ | refine S10 ?_ | refine S11 ?_ | refine S13 ?_ | refine S15 ?_ | refine S16 ?_ | refine S19 ?_ | refine S21 ?_ | refine S22 ?_ | refine S48 ?_ | refine S49 ?_ | refine S66 ?_ | refine S68 ?_)
    exact ⟨.inr rfl, FR.cell1 rfl HBx rfl rfl (.cl (by simp only [PV.cl, PV.cl.clL, pint_cl, pli_cl, Bool.and_self]))⟩
end Go.Proofs.Ytdlpbpfcgjgppaa

/- Facts and contracts that the claim uses. No condition of its own. -/
set_option linter.unusedVariables false
set_option linter.unusedSimpArgs false
namespace Go.Proofs.Ytdlpbpfcgjgppaa
open Go.RowKit
variable {P : Program} {T : TypeId → TI} {M : Hn} {n : Nat} {t : Nat → PV} {h : HP} {Q : Exit → AS → Prop}
theorem HRel.recell {w0 : World} {Z0 : Nat → Prop} {ρ : Pl} {w : World} (H : HRel w0 Z0 ρ h w) {tk : Nat} {cs r : List PV} (ht : h.blk tk = some cs) (hl : r.length = cs.length)
    (hv : ∀ i u, i < cs.length → V ρ (Zof Z0 ρ h) w (cs.getD i .junk) u → V ρ (Zof Z0 ρ h) w (r.getD i .junk) u) :
    HRel w0 Z0 ρ (h.set tk r) w ∧ ∀ pv u, V ρ (Zof Z0 ρ h) w pv u → V ρ (Zof Z0 ρ (h.set tk r)) w pv u := by
  have hZ : ∀ k, Zof Z0 ρ (h.set tk r) k → Zof Z0 ρ h k := by
    rintro k (hk | ⟨x, c, o', h1, h2⟩ | hk)
    · exact .inl hk
    · by_cases e : x = tk
      · subst e; exact .inr (.inl ⟨x, cs, o', ht, h2⟩)
      · rw [HP.set_other _ _ e] at h1; exact .inr (.inl ⟨x, c, o', h1, h2⟩)
    · exact .inr (.inr hk)
  have up : ∀ pv u, V ρ (Zof Z0 ρ h) w pv u → V ρ (Zof Z0 ρ (h.set tk r)) w pv u := fun pv u hV => hV.ext (Ext.refl _ _) (fun k _ hk => hZ k hk) (fun _ _ h => h)
  have back : ∀ x c, (h.set tk r).blk x = some c → ∃ c', h.blk x = some c' := fun x c hc => by
    by_cases e : x = tk
    · subst e; exact ⟨cs, ht⟩
    · rw [HP.set_other _ _ e] at hc; exact ⟨c, hc⟩
  refine ⟨⟨H.below, H.z0, fun x c h1 => ?_, fun x x' c c' k o1 o2 h1 h2 r1 r2 => ?_, fun x hx => ?_, fun x c h1 => ?_, H.sinj, fun x hw => ?_⟩, up⟩
  · by_cases e : x = tk
    · subst e
      rw [HP.set_same] at h1; cases h1
      rcases H.live x cs ht with ⟨hn, hn2⟩ | ⟨b2, o2, a2, T2, g1, g2, g3, g4, g5⟩
      · exact .inl ⟨List.eq_nil_of_length_eq_zero (by rw [hl, hn]; rfl), hn2⟩
      · exact .inr ⟨b2, o2, a2, T2, g1, g2, g3, by rw [hl]; exact g4, fun i hi => up _ _ (hv i _ (by rw [← hl]; exact hi) (g5 i (by rw [← hl]; exact hi)))⟩
    · rw [HP.set_other _ _ e] at h1
      rcases H.live x c h1 with hn | ⟨b2, o2, a2, T2, g1, g2, g3, g4, g5⟩
      · exact .inl hn
      · exact .inr ⟨b2, o2, a2, T2, g1, g2, g3, g4, fun i hi => up _ _ (g5 i hi)⟩
  · obtain ⟨d1, k1⟩ := back x c h1
    obtain ⟨d2, k2⟩ := back x' c' h2
    exact H.inj x x' d1 d2 k o1 o2 k1 k2 r1 r2
  · have := H.free x hx
    have e : x ≠ tk := fun e => by rw [e, ht] at this; cases this.1
    exact ⟨by rw [HP.set_other _ _ e]; exact this.1, this.2⟩
  · obtain ⟨b, obj, g1, g2, g3, g4⟩ := H.slive x c h1
    exact ⟨b, obj, g1, g2, g3, g4.ext (Ext.refl _ _) (fun k _ hz' => hZ k hz') (fun _ _ h => h)⟩
  · obtain ⟨q1, q2, q3⟩ := H.wfree x hw
    exact ⟨by rw [HP.set_other _ _ (fun e => by rw [e, ht] at q1; cases q1)]; exact q1, q2, q3⟩
theorem set_getD_same {cs : List PV} {i : Nat} {v : PV} (h : i < cs.length) : (cs.set i v).getD i .junk = v := by simp [List.getD, h]
theorem set_getD_other {cs : List PV} {i j : Nat} {v : PV} (h : i ≠ j) : (cs.set i v).getD j .junk = cs.getD j .junk := by simp [List.getD, List.getElem?_set, h]
theorem CW.ownC {c : Code} (v i sz : Nat) {s' : Nat} {cs : List PV} (hb : h.blk v = some cs) (hi : cs[i]? = some (.lst true s' 0 [])) (hne : v < 2 * h.next) (hk : CW P T M n c ⟨t, (h.add false []).set v (cs.set i (.ref (h.tok false) 0 sz 0))⟩ Q) : CW P T M n c ⟨t, h⟩ Q := by
  refine ⟨fun h1 h2 h3 => ?_⟩
  have h4 := hk.out h1 h2 h3
  intro E w0 Z0 ρ a w R
  obtain ⟨H', up⟩ := R.heap.empty false
  have hil : i < cs.length := by
    apply Classical.byContradiction; intro hc
    rw [List.getElem?_eq_none (by omega)] at hi; cases hi
  obtain ⟨H2, up2⟩ := H'.recell (tk := v) (cs := cs) (r := cs.set i (.ref (h.tok false) 0 sz 0)) (by have h9 := (HP.tok_ge h false).1; exact (HP.add_other _ _ _ (show v ≠ h.tok false by omega)).trans hb) (by simp) (fun j u hj hu => by
    by_cases e : i = j
    · subst e
      rw [set_getD_same hil]
      rw [show cs.getD i .junk = .lst true s' 0 [] by rw [List.getD_eq_getElem?_getD, hi]; rfl] at hu
      obtain ⟨cap, A, f, rfl, g1, g2, g3, g4, g5, g6⟩ := hu.lst_inv
      have hc0 : cap = 0 := g2 rfl
      exact .ref _ _ _ _ _ _ g1 g3 (fun hc => absurd hc0 hc)
    · rw [set_getD_other e]; exact hu)
  exact h4 E w0 Z0 ρ a w ⟨R.defers, R.size, fun x => up2 _ _ (up _ _ (R.tmps x)), H2, fun p u h => up2 _ _ (up _ _ (R.mem p u h))⟩
theorem CW.cut {c : Code} {s : AS} (sl : List (Nat × PV)) (hp : HP → Prop) (h0 : allS sl s.tmps ∧ hp s.hp) (hk : ∀ t h, hp h → CW P T M n c ⟨updS sl t, h⟩ Q) : CW P T M n c s Q := by
  have := hk s.tmps s.hp h0.2
  rwa [updS_eta _ _ h0.1] at this
inductive Wea : PV → PV → Prop
  | refl (p : PV) : Wea p p
  | nil (b : Bool) (s s' : Nat) : Wea (.lst b s 0 []) (.lst false s' 0 [])
  | lst {b : Bool} {sz n : Nat} {cs ds : List PV} (hl : ds.length = cs.length) (h : ∀ i, i < cs.length → Wea (cs.getD i .junk) (ds.getD i .junk)) : Wea (.lst b sz n cs) (.lst false sz n ds)
  | agg {cs ds : List PV} (hl : ds.length = cs.length) (h : ∀ i, i < cs.length → Wea (cs.getD i .junk) (ds.getD i .junk)) : Wea (.agg cs) (.agg ds)
theorem V.wk {ρ : Pl} {Z : Nat → Prop} {w : World} {p q : PV} (h : Wea p q) : ∀ u, V ρ Z w p u → V ρ Z w q u := by
  induction h with
  | refl p => intro u hu; exact hu
  | nil b s s' =>
    intro u hu
    obtain ⟨cap, A, f, rfl, g1, g2, g3, g4, g5, g6⟩ := hu.lst_inv
    exact .lst _ _ _ cap _ _ f g1 (fun hh => by cases hh) g3 (by simp) (fun hne => absurd rfl hne) (fun i hi => by simp at hi)
  | lst hl h ih =>
    intro u hu
    obtain ⟨cap, A, f, rfl, g1, g2, g3, g4, g5, g6⟩ := hu.lst_inv
    refine .lst _ _ _ cap _ _ f g1 (fun hh => by cases hh) g3 (by rw [hl]; exact g4) (fun hne => ?_) (fun i hi => ih i (by omega) _ (g6 i (by omega)))
    obtain ⟨b, o, e1, e2, e3, e4⟩ := g5 (fun e => hne (List.eq_nil_of_length_eq_zero (by rw [hl, e]; rfl)))
    exact ⟨b, o, e1, e2, e3, fun i hi => e4 i (by omega)⟩
  | agg hl h ih =>
    intro u hu
    cases hu with
    | agg _ vs e1 e2 => exact .agg _ _ (by rw [hl]; exact e1) (fun i hi => ih i (by omega) _ (e2 i (by omega)))
theorem SC.wk {f : FuncId} {args args' : List PV} {r : PV} (h : SC P f args' r) (hl : args'.length = args.length) (hw : ∀ i, i < args.length → Wea (args.getD i .junk) (args'.getD i .junk)) : SC P f args r :=
  ⟨h.1, fun Z w vs hz hs hv => h.2 Z w vs hz (by omega) (fun i hi => V.wk (hw i (by omega)) _ (hv i (by omega)))⟩
end Go.Proofs.Ytdlpbpfcgjgppaa
