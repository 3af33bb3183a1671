/- timbref1.Parity. No condition of its own. -/
import Derived.Test.YtenoiklocdoemaaGAlexanderMinorsBM
import Derived.Test.YtenoiklocdoemaaGAlexanderMinorsBG
import Derived.Test.YtenoiklocdoemaaGAlexanderMinorsBK
import Derived.Test.YtenoiklocdoemaaGAlexanderMinorsBE
set_option linter.unusedVariables false
set_option linter.unusedSimpArgs false
namespace Go.Proofs.Ytenoiklocdoemaa
open Go.RowKit

theorem pnat_get (q : List Nat) (i : Nat) : (pnat q).getD i 0 = ((q.getD i 0 : Nat) : Int) := by
  unfold pnat
  by_cases h : i < q.length
  · simp [List.getD, h]
  · simp [List.getD, h]
set_option maxHeartbeats 4000000 in
set_option maxRecDepth 100000 in
theorem parity_q {xs : List Int} {f : Nat → Nat} (hv : ∀ i, xs.getD i 0 = (f i : Int)) (hf : ∀ i, f i ≤ 1000) (h9 : xs.length ≤ 1000) : SC Try.prog 50 [pli xs] (pint (sgn (ivc f xs.length))) := by
  refine SC.go {} tok mixed Try.func50 rfl rfl Try.ntmps50 rfl rfl (by kernel_rfl) ?_
  first | simp only [updS] | simp only [updL, Nat.reduceAdd]
  repeat (first | refine S0 ?_ | refine S1 ?_ | refine S2 ?_ | refine S3 ?_ | refine S4 ?_ | refine S5 ?_ | refine S6 ?_ | refine S7 ?_ | refine S8 ?_ | refine S10 ?_ | refine S11 ?_ | refine S13 ?_ | refine S15 ?_ | refine S16 ?_ | refine S19 ?_ | refine S20 ?_ | refine S21 ?_ | refine S22 ?_ | refine S23 ?_ | refine S25 ?_ | refine S26 ?_ | refine S30 ?_ | refine S35 ?_)
  refine CW.loopS (fun i : Nat => i ≤ xs.length) (fun i => [(0, pli xs), (3, pint (sgn (ivc f i))), (7, pint xs.length), (8, pint i)]) (fun _ _ => True) (fun i => xs.length - i) 0 ⟨Nat.zero_le _, SLx, trivial⟩ ?_
  rintro i t h hi _
  first | simp only [updS] | simp only [updL, Nat.reduceAdd]
  by_cases hlt : i < xs.length
  · repeat (first | refine S0 ?_ | refine S1 ?_ | refine S2 ?_ | refine S3 ?_ | refine S4 ?_ | refine S5 ?_ | refine S6 ?_ | refine S7 ?_ | refine S8 ?_ | refine S10 ?_ | refine S11 ?_ | refine S13 ?_ | refine S15 ?_ | refine S16 ?_ | refine S19 ?_ | refine S20 ?_ | refine S21 ?_ | refine S22 ?_ | refine S23 ?_ | refine S25 ?_ | refine S26 ?_ | refine S30 ?_ | refine S35 ?_)
    refine CW.loopS (fun k : Nat => k ≤ i) (fun k => [(0, pli xs), (3, pint (sgn (ivc f i + cnt (fun j => decide (f i < f j)) k))), (4, pint i), (7, pint xs.length), (8, pint i), (11, pint i), (12, pint k)]) (fun _ _ => True) (fun k => i - k) 0 ⟨Nat.zero_le _, SLx, trivial⟩ ?_
    clear t h
    rintro k t h hk _
    first | simp only [updS] | simp only [updL, Nat.reduceAdd]
    by_cases hk2 : k < i
    · have v1 := hv i
      have v2 := hv k
      have b1 := hf i
      have b2 := hf k
      have hc : cnt (fun j => decide (f i < f j)) (k + 1) = cnt (fun j => decide (f i < f j)) k + (if decide (f i < f k) = true then 1 else 0) := rfl
      have hb := sgn_bd (ivc f i + cnt (fun j => decide (f i < f j)) k)
      by_cases hgt : xs.getD i 0 < xs.getD k 0
      · rw [if_pos (decide_eq_true (by omega))] at hc
        repeat (first | refine S0 ?_ | refine S1 ?_ | refine S2 ?_ | refine S3 ?_ | refine S4 ?_ | refine S5 ?_ | refine S6 ?_ | refine S7 ?_ | refine S8 ?_ | refine S10 ?_ | refine S11 ?_ | refine S13 ?_ | refine S15 ?_ | refine S16 ?_ | refine S19 ?_ | refine S20 ?_ | refine S21 ?_ | refine S22 ?_ | refine S23 ?_ | refine S25 ?_ | refine S26 ?_ | refine S30 ?_ | refine S35 ?_)
        refine ⟨k + 1, by omega, ?_, trivial, by omega⟩
        rw [hc, ← Nat.add_assoc, sgn_succ]
        exact SLx
      · rw [if_neg (by simp; omega)] at hc
        repeat (first | refine S0 ?_ | refine S1 ?_ | refine S2 ?_ | refine S3 ?_ | refine S4 ?_ | refine S5 ?_ | refine S6 ?_ | refine S7 ?_ | refine S8 ?_ | refine S10 ?_ | refine S11 ?_ | refine S13 ?_ | refine S15 ?_ | refine S16 ?_ | refine S19 ?_ | refine S20 ?_ | refine S21 ?_ | refine S22 ?_ | refine S23 ?_ | refine S25 ?_ | refine S26 ?_ | refine S30 ?_ | refine S35 ?_)
        refine ⟨k + 1, by omega, ?_, trivial, by omega⟩
        rw [hc, Nat.add_zero]
        exact SLx
    · obtain rfl : k = i := by omega
      repeat (first | refine S0 ?_ | refine S1 ?_ | refine S2 ?_ | refine S3 ?_ | refine S4 ?_ | refine S5 ?_ | refine S6 ?_ | refine S7 ?_ | refine S8 ?_ | refine S10 ?_ | refine S11 ?_ | refine S13 ?_ | refine S15 ?_ | refine S16 ?_ | refine S19 ?_ | refine S20 ?_ | refine S21 ?_ | refine S22 ?_ | refine S23 ?_ | refine S25 ?_ | refine S26 ?_ | refine S30 ?_ | refine S35 ?_)
      exact ⟨k + 1, by omega, SLx, trivial, by omega⟩
  · obtain rfl : i = xs.length := by omega
    repeat (first | refine S0 ?_ | refine S1 ?_ | refine S2 ?_ | refine S3 ?_ | refine S4 ?_ | refine S5 ?_ | refine S6 ?_ | refine S7 ?_ | refine S8 ?_ | refine S10 ?_ | refine S11 ?_ | refine S13 ?_ | refine S15 ?_ | refine S16 ?_ | refine S19 ?_ | refine S20 ?_ | refine S21 ?_ | refine S22 ?_ | refine S23 ?_ | refine S25 ?_ | refine S26 ?_ | refine S30 ?_ | refine S35 ?_)
    exact ⟨.inr rfl, .cl rfl⟩
theorem parity_n {n : Nat} {q : List Nat} (hn : n ≤ 6) (h : Good n q) : SC Try.prog 50 [pli (pnat q)] (pint (sgn (invs q))) := by
  have h1 := h.len
  have hg : ∀ i, q.getD i 0 ≤ 1000 := fun i => by
    by_cases c : i < q.length
    · have := h.lt (q.getD i 0) (by rw [show q.getD i 0 = q[i] by simp [List.getD, c]]; exact List.getElem_mem c)
      omega
    · simp [List.getD, c]
  have := parity_q (xs := pnat q) (f := fun i => q.getD i 0) (pnat_get q) hg (by rw [pnat_len]; omega)
  rw [pnat_len, ← invs_ivc q q.length (Nat.le_refl _), List.take_length] at this
  exact this
end Go.Proofs.Ytenoiklocdoemaa

/- timbref1.PolyDet: the determinant over all permutations. No condition of its own. -/
set_option linter.unusedVariables false
set_option linter.unusedSimpArgs false
namespace Go.Proofs.Ytenoiklocdoemaa
open Go.RowKit

/-! ### rows of terms -/
def ptm (f : Tm) : PV := .fmap (mi f)
def ptms (l : List Tm) : PV := .lst false 1 l.length (l.map ptm)
def ptmss (m : List (List Tm)) : PV := .lst false 1 m.length (m.map ptms)
@[simp] theorem ptms_cl (l : List Tm) : (ptms l).cl = true := by
  simp only [ptms, PV.cl]
  refine clL_mem.2 (fun c hc => ?_)
  obtain ⟨x, _, rfl⟩ := List.mem_map.1 hc
  rfl
@[simp] theorem ptmss_cl (m : List (List Tm)) : (ptmss m).cl = true := by
  simp only [ptmss, PV.cl]
  refine clL_mem.2 (fun c hc => ?_)
  obtain ⟨x, _, rfl⟩ := List.mem_map.1 hc
  exact ptms_cl x
theorem mapG_drop0 {α : Type} {F : α → PV} (d : α) {l : List α} {k : Nat} (h : k < l.length) : ((l.map F).drop k)[0]? = some (F (l.getD k d)) := by simp [List.getD, h]
/-- no term -/
def tm0 : Tm := fun _ => none
/-- a square matrix of terms that stands for a matrix of the ring -/
structure TMx (tm : List (List Tm)) (n B : Nat) (M : Nat → Nat → LP) : Prop where
  hn : n ≤ 6
  hB : B ≤ 300
  len : tm.length = n
  row : ∀ i, i < n → (tm.getD i []).length = n
  is : ∀ i j, i < n → j < n → IsT B ((tm.getD i []).getD j tm0) (M i j)
  sup : ∀ i j, Sup B (M i j)
/-- the product that is made -/
noncomputable def tprd (tm : List (List Tm)) (q : List Nat) : Nat → Tm
  | 0 => fun x => if x = 0 then some (sgn (invs q)) else none
  | i + 1 => wT (tmul (tprd tm q i) ((tm.getD i []).getD (q.getD i 0) tm0))
/-- the sum that is made -/
noncomputable def tsum (tm : List (List Tm)) (n : Nat) (ps : List (List Nat)) : Tm := ps.foldl (fun f q => wT (tplus f (tprd tm q n) 1)) tm0
theorem tsum_snoc (tm : List (List Tm)) (n : Nat) (ps : List (List Nat)) (q : List Nat) : tsum tm n (ps ++ [q]) = wT (tplus (tsum tm n ps) (tprd tm q n) 1) := by
  unfold tsum
  rw [List.foldl_append]; rfl
theorem tprd_is {tm : List (List Tm)} {n B : Nat} {M : Nat → Nat → LP} (h : TMx tm n B M) {q : List Nat} (hq : Good n q) : ∀ i, i ≤ n → IsT (i * B) (tprd tm q i) (pprP M q (LP.mono (sgn (invs q)) 0) i) ∧ Sup ((i * B : Nat) : Int) (pprP M q (LP.mono (sgn (invs q)) 0) i)
  | 0, _ => ⟨isT_mono _ _ (by omega), Sup.monom _ _ (by omega)⟩
  | i + 1, hi => by
    obtain ⟨ih, ihs⟩ := tprd_is h hq i (by omega)
    have hqi : q.getD i 0 < n := hq.lt _ (by have := hq.len; rw [show q.getD i 0 = q[i] by simp [List.getD, show i < q.length by omega]]; exact List.getElem_mem _)
    have e : (i + 1) * B = i * B + B := by rw [Nat.add_mul]; omega
    rw [e]
    exact ⟨ih.mul (h.is i _ (by omega) hqi) ihs, Sup.mul ihs (h.sup i _)⟩
theorem mono0 (k : Int) : LP.mono k 0 = LP.smul k 1 := LP.ext fun e => by
  rw [LP.mono_f, LP.smul_f, LP.one_eq, LP.mono_f]
  split <;> simp
theorem ppr_prd {M : Nat → Nat → LP} {n : Nat} {q : List Nat} (hq : q.length = n) : pprP M q (LP.mono (sgn (invs q)) 0) n = LP.smul (sgn (invs q)) (prdP M (List.range n) q) := by
  have := prdP_ppr M q (LP.mono (sgn (invs q)) 0) n (by omega)
  rw [show q.take n = q by rw [← hq, List.take_length]] at this
  rw [← this, mono0, LP.smul_mul, LP.one_mul]
theorem tsum_is {tm : List (List Tm)} {n B : Nat} {M : Nat → Nat → LP} (h : TMx tm n B M) : ∀ (ps : List (List Nat)), (∀ q ∈ ps, Good n q) → ∀ f a, IsT (n * B) f a → IsT (n * B) (ps.foldl (fun f q => wT (tplus f (tprd tm q n) 1)) f) (a + smP ps (fun s => LP.smul (sgn (invs s)) (prdP M (List.range n) s)))
  | [], _, f, a, hf => by simpa [smP, LP.add_zero] using hf
  | q :: ps, hg, f, a, hf => by
    have hq := hg q (by simp)
    have h1 := hf.plus (tprd_is h hq n (Nat.le_refl _)).1 1
    rw [ppr_prd hq.len, LP.smul_one] at h1
    have := tsum_is h ps (fun q hq => hg q (by simp [hq])) _ _ h1
    simp only [smP]
    rw [← LP.add_assoc]
    exact this
theorem tsum_64 (tm : List (List Tm)) (n : Nat) : ∀ (ps : List (List Nat)) (f : Tm), T64 f → T64 (ps.foldl (fun f q => wT (tplus f (tprd tm q n) 1)) f)
  | [], f, h => h
  | q :: ps, f, h => tsum_64 tm n ps _ (T64.wT _)
theorem tmul_bd {f g : Tm} {B C : Nat} (h1 : ∀ e, (f e).isSome = true → -(B : Int) ≤ e ∧ e ≤ B) (h2 : ∀ e, (g e).isSome = true → -(C : Int) ≤ e ∧ e ≤ C) (e : Int) (he : (tmul f g e).isSome = true) : -((B + C : Nat) : Int) ≤ e ∧ e ≤ ((B + C : Nat) : Int) := by
  have hE : Enum f (enumT f (-(B : Int)) (2 * B + 1)) := ⟨fun y hy => (enumT_mem hy).1, enumT_nodup _⟩
  have hF : Full f (enumT f (-(B : Int)) (2 * B + 1)) := fun e c hc => by
    have := h1 e (by rw [hc]; rfl)
    exact enumT_all hc (by omega) (by omega)
  rw [tmul_eq hE hF] at he
  unfold gM at he
  split at he
  · rename_i hh
    obtain ⟨y, hy, hh⟩ := List.any_eq_true.1 hh
    have k1 := enumT_mem hy
    have k2 := h2 _ hh
    omega
  · cases he
theorem tm_in {tm : List (List Tm)} {n B : Nat} {M : Nat → Nat → LP} (h : TMx tm n B M) (i j : Nat) (e : Int) (he : (((tm.getD i []).getD j tm0) e).isSome = true) : -(B : Int) ≤ e ∧ e ≤ B := by
  by_cases hi : i < n
  · by_cases hj : j < n
    · exact (h.is i j hi hj).bd e he
    · have hr := h.row i hi
      rw [List.getD_eq_getElem?_getD (l := tm.getD i []), List.getElem?_eq_none (by omega)] at he
      cases he
  · have hl := h.len
    rw [show tm.getD i [] = [] by rw [List.getD_eq_getElem?_getD, List.getElem?_eq_none (by omega)]; rfl] at he
    cases he
theorem tprd_bd {tm : List (List Tm)} {n B : Nat} {M : Nat → Nat → LP} (h : TMx tm n B M) (q : List Nat) : ∀ (i : Nat) (e : Int), (tprd tm q i e).isSome = true → -((i * B : Nat) : Int) ≤ e ∧ e ≤ ((i * B : Nat) : Int)
  | 0, e, he => by
    unfold tprd at he
    by_cases h0 : e = 0
    · omega
    · simp only [if_neg h0] at he; cases he
  | i + 1, e, he => by
    unfold tprd at he
    rw [wT_some] at he
    have := tmul_bd (tprd_bd h q i) (tm_in h i (q.getD i 0)) e he
    rw [Nat.add_mul]; omega
theorem tsum_bd {tm : List (List Tm)} {n B : Nat} {M : Nat → Nat → LP} (h : TMx tm n B M) : ∀ (ps : List (List Nat)) (f : Tm), (∀ e, (f e).isSome = true → -((n * B : Nat) : Int) ≤ e ∧ e ≤ ((n * B : Nat) : Int)) → ∀ e, ((ps.foldl (fun f q => wT (tplus f (tprd tm q n) 1)) f) e).isSome = true → -((n * B : Nat) : Int) ≤ e ∧ e ≤ ((n * B : Nat) : Int)
  | [], f, hf, e, he => hf e he
  | q :: ps, f, hf, e, he => by
    refine tsum_bd h ps _ (fun e he => ?_) e he
    rw [wT_some] at he
    unfold tplus at he
    split at he
    · rename_i hh
      rw [Bool.or_eq_true] at hh
      rcases hh with hh | hh
      · exact hf e hh
      · exact tprd_bd h q n e hh
    · cases he
noncomputable def valT (tm : List (List Tm)) (n : Nat) (ps : List (List Nat)) : List PV := [.fmap (mi (tsum tm n ps))]
set_option maxHeartbeats 16000000 in
set_option maxRecDepth 100000 in
theorem pdet1_e {tm : List (List Tm)} {n B T0 : Nat} {M : Nat → Nat → LP} (hM : TMx tm n B M) (hT : T0 % 2 = 1) : Each n T0 49 [.lptr [ptmss tm], .ptr T0 0] (valT tm n) := by
  intro ps q h hT2 hb hq
  change h.blk T0 = some [.fmap (mi (tsum tm n ps))] at hb
  refine SChE.go {fz := [10]} tok mixed Try.func49 rfl rfl Try.ntmps49 rfl rfl (by kernel_rfl) (fun hw => ?_)
  first | simp only [updS] | simp only [updL, Nat.reduceAdd]
  have hql : (pnat q).length = n := by rw [pnat_len]; exact hq.len
  have hn6 := hM.hn
  repeat (first | refine S0 ?_ | refine S1 ?_ | refine S2 ?_ | refine S4 ?_ | refine S5 ?_ | refine S6 ?_ | refine S7 ?_ | refine S8 ?_ | refine S10 ?_ | refine S11 ?_ | refine S13 ?_ | refine S15 ?_ | refine S16 ?_ | refine S18 ?_ | refine S19 ?_ | refine S20 ?_ | refine S21 ?_ | refine S22 ?_ | refine S23 ?_ | refine S25 ?_ | refine S26 ?_ | refine S46 ?_ | refine S56 ?_ | refine S65 ?_ | refine S68 ?_ | refine S74 ?_ | refine S79 ?_ | refine S82 ?_)
  refine Scall (args := [pli (pnat q)]) (parity_n hM.hn hq) ?_
  repeat (first | refine S0 ?_ | refine S1 ?_ | refine S2 ?_ | refine S4 ?_ | refine S5 ?_ | refine S6 ?_ | refine S7 ?_ | refine S8 ?_ | refine S10 ?_ | refine S11 ?_ | refine S13 ?_ | refine S15 ?_ | refine S16 ?_ | refine S18 ?_ | refine S19 ?_ | refine S20 ?_ | refine S21 ?_ | refine S22 ?_ | refine S23 ?_ | refine S25 ?_ | refine S26 ?_ | refine S46 ?_ | refine S56 ?_ | refine S65 ?_ | refine S68 ?_ | refine S74 ?_ | refine S79 ?_ | refine S82 ?_)
  have hlen := hM.len
  have hB := hM.hB
  have fr0 : Fr [] h (((h.addS true (.map (mi fun x => none))).setS (h.tok true) (.map (mi fun y => if y = 0 then some (sgn (invs q)) else none))).killS (h.tok true)) := (((Fr.refl [] h).addS true _).setS _ (.inr (HP.tok_ge _ _).1)).killS (.inr (HP.tok_ge _ _).1)
  refine CW.loopS (fun i : Nat => i ≤ n) (fun i => [(0, pli (pnat q)), (1, .lptr [ptmss tm]), (2, .ptr T0 0), (4, .fmap (mi (tprd tm q i))), (11, pli (pnat q)), (12, pint n), (13, pint i)]) (fun i hp => Fr [] h hp) (fun i => n - i) 0 ⟨by omega, by rw [← hql]; exact SLx, fr0⟩ ?_
  rintro i t hp hi fr
  first | simp only [updS] | simp only [updL, Nat.reduceAdd]
  by_cases hi2 : i < n
  · have hv := pnat_get q i
    have hrow := hM.row i hi2
    have hqi : q.getD i 0 < n := hq.lt _ (by have := hq.len; rw [show q.getD i 0 = q[i] by simp [List.getD, show i < q.length by omega]]; exact List.getElem_mem _)
    have hBi : i * B ≤ 6 * 300 := Nat.mul_le_mul (by omega) hB
    have hmul := tmulW_s (tprd tm q i) ((tm.getD i []).getD (q.getD i 0) tm0) 2000 (by omega) (fun e he => by have := tprd_bd hM q i e he; omega) (fun e he => by have := tm_in hM i (q.getD i 0) e he; omega)
    repeat (first | refine S0 ?_ | refine S1 ?_ | refine S2 ?_ | refine S4 ?_ | refine S5 ?_ | refine S6 ?_ | refine S7 ?_ | refine S8 ?_ | refine S10 ?_ | refine S11 ?_ | refine S13 ?_ | refine S15 ?_ | refine S16 ?_ | refine S18 ?_ | refine S19 ?_ | refine S20 ?_ | refine S21 ?_ | refine S22 ?_ | refine S23 ?_ | refine S25 ?_ | refine S26 ?_ | refine S46 ?_ | refine S56 ?_ | refine S65 ?_ | refine S68 ?_ | refine S74 ?_ | refine S79 ?_ | refine S82 ?_)
    refine AW.ldl EVx rfl (p := ptm ((tm.getD i []).getD (q.getD i 0) tm0)) (by rw [hv, Int.toNat_natCast, Nat.mul_one]; exact mapG_drop0 tm0 (by omega)) ?_
    refine Scall (args := [.fmap (mi (tprd tm q i)), .fmap (mi ((tm.getD i []).getD (q.getD i 0) tm0))]) hmul ?_
    repeat (first | refine S0 ?_ | refine S1 ?_ | refine S2 ?_ | refine S4 ?_ | refine S5 ?_ | refine S6 ?_ | refine S7 ?_ | refine S8 ?_ | refine S10 ?_ | refine S11 ?_ | refine S13 ?_ | refine S15 ?_ | refine S16 ?_ | refine S18 ?_ | refine S19 ?_ | refine S20 ?_ | refine S21 ?_ | refine S22 ?_ | refine S23 ?_ | refine S25 ?_ | refine S26 ?_ | refine S46 ?_ | refine S56 ?_ | refine S65 ?_ | refine S68 ?_ | refine S74 ?_ | refine S79 ?_ | refine S82 ?_)
    exact ⟨i + 1, by omega, SLx, fr, by omega⟩
  · obtain rfl : i = n := by omega
    have hb' := fr.get hT2 (by simp) hb
    have hBi : i * B ≤ 6 * 300 := Nat.mul_le_mul (by omega) hB
    have hpl := tplusW_s (tsum tm i ps) (tprd tm q i) 1 2000 (fun e he => by have := tsum_bd hM ps tm0 (fun e he => by cases he) e he; omega) (fun e he => by have := tprd_bd hM q i e he; omega)
    repeat (first | refine S0 ?_ | refine S1 ?_ | refine S2 ?_ | refine S4 ?_ | refine S5 ?_ | refine S6 ?_ | refine S7 ?_ | refine S8 ?_ | refine S10 ?_ | refine S11 ?_ | refine S13 ?_ | refine S15 ?_ | refine S16 ?_ | refine S18 ?_ | refine S19 ?_ | refine S20 ?_ | refine S21 ?_ | refine S22 ?_ | refine S23 ?_ | refine S25 ?_ | refine S26 ?_ | refine S46 ?_ | refine S56 ?_ | refine S65 ?_ | refine S68 ?_ | refine S74 ?_ | refine S79 ?_ | refine S82 ?_)
    refine Scall (args := [.fmap (mi (tsum tm i ps)), .fmap (mi (tprd tm q i)), pint 1]) hpl ?_
    repeat (first | refine S0 ?_ | refine S1 ?_ | refine S2 ?_ | refine S4 ?_ | refine S5 ?_ | refine S6 ?_ | refine S7 ?_ | refine S8 ?_ | refine S10 ?_ | refine S11 ?_ | refine S13 ?_ | refine S15 ?_ | refine S16 ?_ | refine S18 ?_ | refine S19 ?_ | refine S20 ?_ | refine S21 ?_ | refine S22 ?_ | refine S23 ?_ | refine S25 ?_ | refine S26 ?_ | refine S46 ?_ | refine S56 ?_ | refine S65 ?_ | refine S68 ?_ | refine S74 ?_ | refine S79 ?_ | refine S82 ?_)
    refine ⟨.inl rfl, _, rfl, ?_, ((Fr.refl [T0] h).trans fr (by simp)).set _ (.inl (by simp))⟩
    rw [HP.set_same]
    unfold valT
    rw [tsum_snoc]
set_option maxHeartbeats 16000000 in
set_option maxRecDepth 100000 in
theorem polydet_s {tm : List (List Tm)} {n B : Nat} {M : Nat → Nat → LP} (hM : TMx tm n B M) : ∃ f : Tm, IsT (n * B) f (lapP M (List.range n) (List.range n)) ∧ T64 f ∧ SC Try.prog 25 [ptmss tm] (.fmap (mi f)) := by
  have hlen := hM.len
  have hn6 := hM.hn
  have hgood : ∀ q ∈ sfx n n [], Good n q := fun q hq => ⟨sfx_len n [] q hq, sfx_mem n [] q hq, (sfx_nodup n [] q hq).1⟩
  refine ⟨tsum tm n (sfx n n []), ?_, tsum_64 tm n _ _ (fun e => by unfold tv tm0 in64; simp), ?_⟩
  · have := tsum_is hM (sfx n n []) hgood tm0 0 isT_none
    rw [LP.zero_add] at this
    have e := lapP_leib M (List.range n)
    rw [List.length_range] at e
    rw [e]; exact this
  refine SC.go {} tok mixed Try.func25 rfl rfl Try.ntmps25 rfl rfl (by kernel_rfl) ?_
  first | simp only [updS] | simp only [updL, Nat.reduceAdd]
  iterate 13 (first | refine S0 ?_ | refine S1 ?_ | refine S2 ?_ | refine S4 ?_ | refine S5 ?_ | refine S6 ?_ | refine S7 ?_ | refine S8 ?_ | refine S10 ?_ | refine S11 ?_ | refine S13 ?_ | refine S15 ?_ | refine S16 ?_ | refine S18 ?_ | refine S19 ?_ | refine S20 ?_ | refine S21 ?_ | refine S22 ?_ | refine S23 ?_ | refine S25 ?_ | refine S26 ?_ | refine S46 ?_ | refine S56 ?_ | refine S65 ?_ | refine S68 ?_ | refine S74 ?_ | refine S79 ?_ | refine S82 ?_)
  refine CW.freezeV (h := ((H0.addS true (.map (mi fun _ => none))).add true [.sc (.map none)]).set 3 [.mref 1]) 3 1 (m := mi fun _ => none) (HP.set_same _ _ _) rfl ?_
  repeat (first | refine S0 ?_ | refine S1 ?_ | refine S2 ?_ | refine S4 ?_ | refine S5 ?_ | refine S6 ?_ | refine S7 ?_ | refine S8 ?_ | refine S10 ?_ | refine S11 ?_ | refine S13 ?_ | refine S15 ?_ | refine S16 ?_ | refine S18 ?_ | refine S19 ?_ | refine S20 ?_ | refine S21 ?_ | refine S22 ?_ | refine S23 ?_ | refine S25 ?_ | refine S26 ?_ | refine S46 ?_ | refine S56 ?_ | refine S65 ?_ | refine S68 ?_ | refine S74 ?_ | refine S79 ?_ | refine S82 ?_)
  have hF := pdet1_e hM (T0 := 3) rfl
  have ke := perms_e hF hn6 rfl (h := ((((H0.addS true (.map (mi fun _ => none))).add true [.sc (.map none)]).set 3 [.mref 1]).killS 1).set 3 [.fmap (mi fun _ => none)]) (HP.set_same _ _ _)
  rw [← hlen] at ke
  refine Scalle (args := [pint tm.length, .clo 49 [.lptr [ptmss tm], .ptr 3 0]]) ke ?_
  rintro r h' ⟨hb', hf'⟩
  rw [hlen] at hb'
  change _ = some [PV.fmap (mi (tsum tm n (sfx n n [])))] at hb'
  repeat (first | refine S0 ?_ | refine S1 ?_ | refine S2 ?_ | refine S4 ?_ | refine S5 ?_ | refine S6 ?_ | refine S7 ?_ | refine S8 ?_ | refine S10 ?_ | refine S11 ?_ | refine S13 ?_ | refine S15 ?_ | refine S16 ?_ | refine S18 ?_ | refine S19 ?_ | refine S20 ?_ | refine S21 ?_ | refine S22 ?_ | refine S23 ?_ | refine S25 ?_ | refine S26 ?_ | refine S46 ?_ | refine S56 ?_ | refine S65 ?_ | refine S68 ?_ | refine S74 ?_ | refine S79 ?_ | refine S82 ?_)
  exact ⟨.inr rfl, .cl rfl⟩
end Go.Proofs.Ytenoiklocdoemaa
