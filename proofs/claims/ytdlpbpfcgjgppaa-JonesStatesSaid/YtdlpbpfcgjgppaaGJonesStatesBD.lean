/- Facts and contracts that the claim uses. No condition of its own. -/
import Derived.Test.YtdlpbpfcgjgppaaGJonesStatesBB
import Derived.Test.YtdlpbpfcgjgppaaGJonesStatesBC
set_option linter.unusedVariables false
set_option linter.unusedSimpArgs false
namespace Go.Proofs.Ytdlpbpfcgjgppaa
open Go.RowKit
set_option maxHeartbeats 8000000 in
set_option maxRecDepth 100000 in
theorem timesG_s (a b : Po) (hla : -100000 ≤ a.1 ∧ a.1 ≤ 100000) (hlb : -100000 ≤ b.1 ∧ b.1 ≤ 100000) (hca : a.2.length ≤ 10000) (hcb : b.2.length ≤ 10000) :
    SC Try.prog 27 [ppo a, ppo b] (ppo (cano (fun e => wrp (pmul a b e)))) := by
  obtain ⟨la, ca⟩ := a
  obtain ⟨lb, cb⟩ := b
  simp only at hla hlb hca hcb
  refine SC.go {} tok mixed Try.func27 rfl rfl Try.ntmps27 rfl rfl (by kernel_rfl) ?_
  first | simp only [updS] | simp only [updL, Nat.reduceAdd]
  by_cases h1 : ca.length = 0
  · obtain rfl : ca = [] := List.length_eq_zero_iff.1 h1
    rw [cano_zero (F := fun e => wrp (pmul (la, []) (lb, cb) e)) (fun e => rfl)]
    repeat (first | refine S0 ?_ | refine S1 ?_ | refine S2 ?_ | refine S4 ?_ | refine S5 ?_ | refine S6 ?_ | refine S7 ?_ | refine S8 ?_ | refine S9 ?_ | refine S10 ?_ | refine S11 ?_ | refine S13 ?_ | refine S15 ?_ | refine S16 ?_ | refine S19 ?_ | refine S20 ?_ | refine S21 ?_ | refine S22 ?_ | refine S23 ?_ | refine S25 ?_ | refine S26 ?_ | refine S27 ?_ | refine S28 ?_ | refine S33 ?_ | refine S37 ?_ | refine S38 ?_ | refine S40 ?_ | refine S41 ?_ | refine S43 ?_ | refine S44 ?_ | refine S46 ?_ | refine S65 ?_ | refine S66 ?_ | refine S68 ?_ | refine S69 ?_ | refine S71 ?_)
    exact ⟨.inr rfl, FR.cell1 rfl HBx rfl rfl (.nrm rfl)⟩
  by_cases h2 : cb.length = 0
  · obtain rfl : cb = [] := List.length_eq_zero_iff.1 h2
    rw [cano_zero (F := fun e => wrp (pmul (la, ca) (lb, []) e)) (fun e => by
      refine (congrArg wrp (?_ : pmul (la, ca) (lb, []) e = 0)).trans rfl
      unfold pmul cvn
      apply sum_zero
      intro z hz
      obtain ⟨r, _, rfl⟩ := List.mem_map.1 hz
      rw [co_nil, Int.mul_zero])]
    repeat (first | refine S0 ?_ | refine S1 ?_ | refine S2 ?_ | refine S4 ?_ | refine S5 ?_ | refine S6 ?_ | refine S7 ?_ | refine S8 ?_ | refine S9 ?_ | refine S10 ?_ | refine S11 ?_ | refine S13 ?_ | refine S15 ?_ | refine S16 ?_ | refine S19 ?_ | refine S20 ?_ | refine S21 ?_ | refine S22 ?_ | refine S23 ?_ | refine S25 ?_ | refine S26 ?_ | refine S27 ?_ | refine S28 ?_ | refine S33 ?_ | refine S37 ?_ | refine S38 ?_ | refine S40 ?_ | refine S41 ?_ | refine S43 ?_ | refine S44 ?_ | refine S46 ?_ | refine S65 ?_ | refine S66 ?_ | refine S68 ?_ | refine S69 ?_ | refine S71 ?_)
    exact ⟨.inr rfl, FR.cell1 rfl HBx rfl rfl (.nrm rfl)⟩
  obtain ⟨n, hn⟩ : ∃ n : Nat, (ca.length : Int) + (cb.length : Int) - 1 = n := ⟨ca.length + cb.length - 1, by omega⟩
  repeat (first | refine S0 ?_ | refine S1 ?_ | refine S2 ?_ | refine S4 ?_ | refine S5 ?_ | refine S6 ?_ | refine S7 ?_ | refine S8 ?_ | refine S9 ?_ | refine S10 ?_ | refine S11 ?_ | refine S13 ?_ | refine S15 ?_ | refine S16 ?_ | refine S19 ?_ | refine S20 ?_ | refine S21 ?_ | refine S22 ?_ | refine S23 ?_ | refine S25 ?_ | refine S26 ?_ | refine S27 ?_ | refine S28 ?_ | refine S33 ?_ | refine S37 ?_ | refine S38 ?_ | refine S40 ?_ | refine S41 ?_ | refine S43 ?_ | refine S44 ?_ | refine S46 ?_ | refine S65 ?_ | refine S66 ?_ | refine S68 ?_ | refine S69 ?_ | refine S71 ?_)
  rw [hn]
  repeat (first | refine S0 ?_ | refine S1 ?_ | refine S2 ?_ | refine S4 ?_ | refine S5 ?_ | refine S6 ?_ | refine S7 ?_ | refine S8 ?_ | refine S9 ?_ | refine S10 ?_ | refine S11 ?_ | refine S13 ?_ | refine S15 ?_ | refine S16 ?_ | refine S19 ?_ | refine S20 ?_ | refine S21 ?_ | refine S22 ?_ | refine S23 ?_ | refine S25 ?_ | refine S26 ?_ | refine S27 ?_ | refine S28 ?_ | refine S33 ?_ | refine S37 ?_ | refine S38 ?_ | refine S40 ?_ | refine S41 ?_ | refine S43 ?_ | refine S44 ?_ | refine S46 ?_ | refine S65 ?_ | refine S66 ?_ | refine S68 ?_ | refine S69 ?_ | refine S71 ?_)
  refine CW.loopS (fun i : Nat => i ≤ ca.length) (fun i => [(2, .lptr [pint la, pli ca]), (3, .lptr [pint lb, pli cb]), (4, .ptr 1 0), (5, .ref 2 0 1 n), (31, pli ca), (32, pint ca.length), (33, pint i)]) (fun i hp => hp.blk 1 = some [pint 0, .lst true 0 0 []] ∧ hp.blk 2 = some (ints (tab n (fun j => wrp (cvn (la, ca) (lb, cb) i (la + lb + j)))))) (fun i => ca.length - i) 0 ⟨by omega, SLx, ?_⟩ ?_
  · have e0 : List.replicate n (0 : Int) = tab n (fun j => wrp (cvn (la, ca) (lb, cb) 0 (la + lb + j))) := by rw [tab_zero]; exact tab_congr (fun i _ => rfl)
    dsimp only
    rw [← e0]
    exact (by (try dsimp only); repeat' (first | exact HBx | exact SBx | refine And.intro ?_ ?_))
  rintro i t h hi ⟨b1, b2⟩
  first | simp only [updS] | simp only [updL, Nat.reduceAdd]
  by_cases hi2 : i < ca.length
  · repeat (first | refine S0 ?_ | refine S1 ?_ | refine S2 ?_ | refine S4 ?_ | refine S5 ?_ | refine S6 ?_ | refine S7 ?_ | refine S8 ?_ | refine S9 ?_ | refine S10 ?_ | refine S11 ?_ | refine S13 ?_ | refine S15 ?_ | refine S16 ?_ | refine S19 ?_ | refine S20 ?_ | refine S21 ?_ | refine S22 ?_ | refine S23 ?_ | refine S25 ?_ | refine S26 ?_ | refine S27 ?_ | refine S28 ?_ | refine S33 ?_ | refine S37 ?_ | refine S38 ?_ | refine S40 ?_ | refine S41 ?_ | refine S43 ?_ | refine S44 ?_ | refine S46 ?_ | refine S65 ?_ | refine S66 ?_ | refine S68 ?_ | refine S69 ?_ | refine S71 ?_)
    refine CW.loopS (fun j : Nat => j ≤ cb.length) (fun j => [(2, .lptr [pint la, pli ca]), (3, .lptr [pint lb, pli cb]), (4, .ptr 1 0), (5, .ref 2 0 1 n), (6, pint i), (7, pint (ca.getD i 0)), (31, pli ca), (32, pint ca.length), (33, pint i), (39, pli cb), (40, pint cb.length), (41, pint j)]) (fun j hp => hp.blk 1 = some [pint 0, .lst true 0 0 []] ∧ hp.blk 2 = some (ints (tab n (fun q => wrp ((fun e => cvn (la, ca) (lb, cb) i e + ca.getD i 0 * coT (lb, cb) j (e - la - i)) (la + lb + q)))))) (fun j => cb.length - j) 0 ⟨by omega, SLx, ?_⟩ ?_
    · have e0 : tab n (fun j => wrp (cvn (la, ca) (lb, cb) i (la + lb + j))) = tab n (fun q => wrp ((fun e => cvn (la, ca) (lb, cb) i e + ca.getD i 0 * coT (lb, cb) 0 (e - la - i)) (la + lb + q))) := tab_congr (fun j _ => by simp only [coT_zero, Int.mul_zero, Int.add_zero])
      dsimp only at e0 ⊢
      rw [← e0]
      exact (by (try dsimp only); repeat' (first | exact HBx | exact SBx | refine And.intro ?_ ?_))
    clear b1 b2 t h
    rintro j t h hj ⟨b1, b2⟩
    first | simp only [updS] | simp only [updL, Nat.reduceAdd]
    by_cases hj2 : j < cb.length
    · obtain ⟨zs, hzs⟩ : ∃ zs, zs = tab n (fun q => wrp ((fun e => cvn (la, ca) (lb, cb) i e + ca.getD i 0 * coT (lb, cb) j (e - la - i)) (la + lb + q))) := ⟨_, rfl⟩
      rw [← hzs] at b2
      have hzl : zs.length = n := by rw [hzs, tab_length]
      have hq : ((((i : Int) + (j : Int)).toNat : Nat) : Int) = (la + lb + i + j) - (la + lb) := by omega
      have hq2 : la + lb + i + j < la + lb + n := by omega
      have hset : zs.set ((i : Int) + (j : Int)).toNat (wrp (zs.getD ((i : Int) + (j : Int)).toNat 0 + wrp (ca.getD i 0 * cb.getD j 0))) = tab n (fun q => wrp ((fun e => cvn (la, ca) (lb, cb) i e + ca.getD i 0 * coT (lb, cb) (j + 1) (e - la - i)) (la + lb + q))) := by
        rw [wrp_addr]
        exact acc_setW (G := fun e => cvn (la, ca) (lb, cb) i e + ca.getD i 0 * coT (lb, cb) j (e - la - i)) (G' := fun e => cvn (la, ca) (lb, cb) i e + ca.getD i 0 * coT (lb, cb) (j + 1) (e - la - i)) hzs hq hq2 (fun x => by
          rw [coT_succ (lb, cb) j, Int.mul_add, ← Int.add_assoc]
          congr 1
          by_cases d : x = la + lb + i + j
          · rw [if_pos d, if_pos (by simp only; omega)]
          · rw [if_neg d, if_neg (by simp only; omega), Int.mul_zero])
      repeat (first | refine S0 ?_ | refine S1 ?_ | refine S2 ?_ | refine S4 ?_ | refine S5 ?_ | refine S6 ?_ | refine S7 ?_ | refine S8 ?_ | refine S9 ?_ | refine S10 ?_ | refine S11 ?_ | refine S13 ?_ | refine S15 ?_ | refine S16 ?_ | refine S19 ?_ | refine S20 ?_ | refine S21 ?_ | refine S22 ?_ | refine S23 ?_ | refine S25 ?_ | refine S26 ?_ | refine S27 ?_ | refine S28 ?_ | refine S33 ?_ | refine S37 ?_ | refine S38 ?_ | refine S40 ?_ | refine S41 ?_ | refine S43 ?_ | refine S44 ?_ | refine S46 ?_ | refine S65 ?_ | refine S66 ?_ | refine S68 ?_ | refine S69 ?_ | refine S71 ?_)
      refine AW.mulV EVx EVx ?_
      repeat (first | refine S0 ?_ | refine S1 ?_ | refine S2 ?_ | refine S4 ?_ | refine S5 ?_ | refine S6 ?_ | refine S7 ?_ | refine S8 ?_ | refine S9 ?_ | refine S10 ?_ | refine S11 ?_ | refine S13 ?_ | refine S15 ?_ | refine S16 ?_ | refine S19 ?_ | refine S20 ?_ | refine S21 ?_ | refine S22 ?_ | refine S23 ?_ | refine S25 ?_ | refine S26 ?_ | refine S27 ?_ | refine S28 ?_ | refine S33 ?_ | refine S37 ?_ | refine S38 ?_ | refine S40 ?_ | refine S41 ?_ | refine S43 ?_ | refine S44 ?_ | refine S46 ?_ | refine S65 ?_ | refine S66 ?_ | refine S68 ?_ | refine S69 ?_ | refine S71 ?_)
      refine AW.addV EVx EVx ?_
      repeat (first | refine S0 ?_ | refine S1 ?_ | refine S2 ?_ | refine S4 ?_ | refine S5 ?_ | refine S6 ?_ | refine S7 ?_ | refine S8 ?_ | refine S9 ?_ | refine S10 ?_ | refine S11 ?_ | refine S13 ?_ | refine S15 ?_ | refine S16 ?_ | refine S19 ?_ | refine S20 ?_ | refine S21 ?_ | refine S22 ?_ | refine S23 ?_ | refine S25 ?_ | refine S26 ?_ | refine S27 ?_ | refine S28 ?_ | refine S33 ?_ | refine S37 ?_ | refine S38 ?_ | refine S40 ?_ | refine S41 ?_ | refine S43 ?_ | refine S44 ?_ | refine S46 ?_ | refine S65 ?_ | refine S66 ?_ | refine S68 ?_ | refine S69 ?_ | refine S71 ?_)
      refine ⟨j + 1, by omega, SLx, ?_, by omega⟩
      dsimp only at hset ⊢
      rw [← hset]
      exact (by (try dsimp only); repeat' (first | exact HBx | exact SBx | refine And.intro ?_ ?_))
    · obtain rfl : j = cb.length := by omega
      repeat (first | refine S0 ?_ | refine S1 ?_ | refine S2 ?_ | refine S4 ?_ | refine S5 ?_ | refine S6 ?_ | refine S7 ?_ | refine S8 ?_ | refine S9 ?_ | refine S10 ?_ | refine S11 ?_ | refine S13 ?_ | refine S15 ?_ | refine S16 ?_ | refine S19 ?_ | refine S20 ?_ | refine S21 ?_ | refine S22 ?_ | refine S23 ?_ | refine S25 ?_ | refine S26 ?_ | refine S27 ?_ | refine S28 ?_ | refine S33 ?_ | refine S37 ?_ | refine S38 ?_ | refine S40 ?_ | refine S41 ?_ | refine S43 ?_ | refine S44 ?_ | refine S46 ?_ | refine S65 ?_ | refine S66 ?_ | refine S68 ?_ | refine S69 ?_ | refine S71 ?_)
      refine ⟨i + 1, by omega, SLx, ?_, by omega⟩
      have e0 : tab n (fun q => wrp ((fun e => cvn (la, ca) (lb, cb) i e + ca.getD i 0 * coT (lb, cb) cb.length (e - la - i)) (la + lb + q))) = tab n (fun j => wrp (cvn (la, ca) (lb, cb) (i + 1) (la + lb + j))) := tab_congr (fun q _ => by
        rw [cvn_succ]
        simp only [coT_all (lb, cb)])
      dsimp only at e0 ⊢
      rw [← e0]
      exact (by (try dsimp only); repeat' (first | exact HBx | exact SBx | refine And.intro ?_ ?_))
  · obtain rfl : i = ca.length := by omega
    refine CW.freezeI (xs := tab n (fun j => wrp (cvn (la, ca) (lb, cb) ca.length (la + lb + j)))) 5 (by rw [tab_length]; rfl) b2 ?_
    repeat (first | refine S0 ?_ | refine S1 ?_ | refine S2 ?_ | refine S4 ?_ | refine S5 ?_ | refine S6 ?_ | refine S7 ?_ | refine S8 ?_ | refine S9 ?_ | refine S10 ?_ | refine S11 ?_ | refine S13 ?_ | refine S15 ?_ | refine S16 ?_ | refine S19 ?_ | refine S20 ?_ | refine S21 ?_ | refine S22 ?_ | refine S23 ?_ | refine S25 ?_ | refine S26 ?_ | refine S27 ?_ | refine S28 ?_ | refine S33 ?_ | refine S37 ?_ | refine S38 ?_ | refine S40 ?_ | refine S41 ?_ | refine S43 ?_ | refine S44 ?_ | refine S46 ?_ | refine S65 ?_ | refine S66 ?_ | refine S68 ?_ | refine S69 ?_ | refine S71 ?_)
    refine Scall (args := [pint (la + lb), pli (tab n (fun j => wrp (cvn (la, ca) (lb, cb) ca.length (la + lb + j))))]) (trim_s (la + lb) _ (by omega) (by rw [tab_length]; omega)) ?_
    rw [co_tabW (F := cvn (la, ca) (lb, cb) ca.length) (fun e he => by
      have := cvn_supp (a := (la, ca)) (b := (lb, cb)) (Nat.le_refl _) he
      simp only at this; omega)]
    repeat (first | refine S0 ?_ | refine S1 ?_ | refine S2 ?_ | refine S4 ?_ | refine S5 ?_ | refine S6 ?_ | refine S7 ?_ | refine S8 ?_ | refine S9 ?_ | refine S10 ?_ | refine S11 ?_ | refine S13 ?_ | refine S15 ?_ | refine S16 ?_ | refine S19 ?_ | refine S20 ?_ | refine S21 ?_ | refine S22 ?_ | refine S23 ?_ | refine S25 ?_ | refine S26 ?_ | refine S27 ?_ | refine S28 ?_ | refine S33 ?_ | refine S37 ?_ | refine S38 ?_ | refine S40 ?_ | refine S41 ?_ | refine S43 ?_ | refine S44 ?_ | refine S46 ?_ | refine S65 ?_ | refine S66 ?_ | refine S68 ?_ | refine S69 ?_ | refine S71 ?_)
    exact ⟨.inr rfl, FR.cell1 rfl HBx rfl rfl (.cl (by simp only [PV.cl, PV.cl.clL, pint_cl, pli_cl, Bool.and_self]))⟩
/-! ### the polynomials by their ring -/
noncomputable def poW (a : LP) : Po := cano (fun e => wrp (a.f e))
theorem canon_ex {F : Int → Int} {lo : Int} {n : Nat} (h : Win F lo n) : ∃ p, canon p ∧ ∀ e, co p e = F e := by
  refine ⟨cano F, ?_⟩
  by_cases c : ∀ e, F e = 0
  · rw [cano_zero c]; exact ⟨canon_zero, fun e => by rw [co_nil, c]⟩
  · have hex : ∃ e, F e ≠ 0 := Classical.byContradiction fun hh => c (fun e => Classical.byContradiction fun h2 => hh ⟨e, h2⟩)
    obtain ⟨e0, he0⟩ := hex
    have h0 := h e0 he0
    have lo1 : ∀ k : Nat, (∃ i : Nat, i < k ∧ F (lo + i) ≠ 0) → ∃ i : Nat, F (lo + i) ≠ 0 ∧ ∀ j : Nat, j < i → F (lo + j) = 0 := by
      intro k
      induction k with
      | zero => rintro ⟨i, h1, _⟩; omega
      | succ k ih =>
        rintro ⟨i, h1, h2⟩
        by_cases hk : ∃ i : Nat, i < k ∧ F (lo + i) ≠ 0
        · exact ih hk
        · exact ⟨i, h2, fun j hj => Classical.byContradiction fun hh => hk ⟨j, by omega, hh⟩⟩
    have hi1 : ∀ k : Nat, k ≤ n → (∃ i : Nat, i < k ∧ F (lo + i) ≠ 0) → (∀ j : Nat, k ≤ j → F (lo + j) = 0) → ∃ i : Nat, F (lo + i) ≠ 0 ∧ ∀ j : Nat, i < j → F (lo + j) = 0 := by
      intro k
      induction k with
      | zero => rintro _ ⟨i, h1, _⟩; omega
      | succ k ih =>
        intro hkn hex hz
        by_cases hk : F (lo + k) = 0
        · obtain ⟨i, h1, h2⟩ := hex
          refine ih (by omega) ⟨i, ?_, h2⟩ (fun j hj => ?_)
          · have : i ≠ k := fun e => h2 (by rw [e]; exact hk)
            omega
          · by_cases e : j = k
            · rw [e]; exact hk
            · exact hz j (by omega)
        · exact ⟨k, hk, fun j hj => hz j (by omega)⟩
    have hex2 : ∃ i : Nat, i < n ∧ F (lo + i) ≠ 0 := ⟨(e0 - lo).toNat, by omega, by rw [show lo + ((e0 - lo).toNat : Int) = e0 by omega]; exact he0⟩
    obtain ⟨f, hf1, hf2⟩ := lo1 n hex2
    obtain ⟨l, hl1, hl2⟩ := hi1 n (Nat.le_refl _) hex2 (fun j hj => h.zero (by omega))
    have hfl : f ≤ l := Nat.le_of_not_lt fun hh => hl1 (hf2 l hh)
    have e := canon_range (F := F) (low := lo + f) (high := lo + l) (n := l - f + 1) hf1 hl1 (fun e he => by
      have h3 := h e he
      obtain ⟨q, hq⟩ : ∃ q : Nat, e = lo + q := ⟨(e - lo).toNat, by omega⟩
      subst hq
      have h4 : f ≤ q := Nat.le_of_not_lt fun hh => he (hf2 q hh)
      have h5 : q ≤ l := Nat.le_of_not_lt fun hh => he (hl2 q hh)
      omega) (by omega)
    have hw := co_tab (F := F) (low := lo + f) (n := l - f + 1) (fun e he => by
      have h3 := h e he
      obtain ⟨q, hq⟩ : ∃ q : Nat, e = lo + q := ⟨(e - lo).toNat, by omega⟩
      subst hq
      have h4 : f ≤ q := Nat.le_of_not_lt fun hh => he (hf2 q hh)
      have h5 : q ≤ l := Nat.le_of_not_lt fun hh => he (hl2 q hh)
      omega)
    rw [e]
    refine ⟨.inr ⟨?_, ?_, ?_⟩, fun x => congrFun hw x⟩
    · intro e; have := congrArg List.length e; simp at this
    · simp only
      rw [tab_get (by omega)]; simpa using hf1
    · simp only [tab_length]
      rw [tab_get (by omega), show lo + (f : Int) + ((l - f + 1 - 1 : Nat) : Int) = lo + l by omega]; exact hl1
theorem cano_co {F : Int → Int} {lo : Int} {n : Nat} (h : Win F lo n) : canon (cano F) ∧ ∀ e, co (cano F) e = F e := by
  obtain ⟨p, h1, h2⟩ := canon_ex h
  rw [cano_eq h1 h2]
  exact ⟨h1, h2⟩
theorem Win.wrp {F : Int → Int} {lo : Int} {n : Nat} (h : Win F lo n) : Win (fun e => wrp (F e)) lo n := fun i hi => h i (fun hh => hi (by simp only [hh]; rfl))
theorem poW_canon (a : LP) : canon (poW a) := (cano_co a.win.wrp).1
theorem poW_co (a : LP) (e : Int) : co (poW a) e = wrp (a.f e) := (cano_co a.win.wrp).2 e
theorem poW_eq {a b : LP} (h : ∀ e, wrp (a.f e) = wrp (b.f e)) : poW a = poW b := congrArg cano (funext h)
theorem poW_bd {B : Int} {a : LP} (h : Sup B a) (hB : 0 ≤ B) : -B ≤ (poW a).1 ∧ (poW a).1 ≤ B ∧ (poW a).1 + (poW a).2.length ≤ B + 1 := by
  rcases poW_canon a with ⟨h1, h2⟩ | ⟨h1, h2, h3⟩
  · rw [h1, h2]; simp; omega
  · have hl : 0 < (poW a).2.length := List.length_pos_iff.2 h1
    have k1 := poW_co a ((poW a).1 + (0 : Nat))
    rw [co_at] at k1
    have k2 := poW_co a ((poW a).1 + ((poW a).2.length - 1 : Nat))
    rw [co_at] at k2
    have g1 := h _ (fun hh => h2 (by rw [k1, hh]; rfl))
    have g2 := h _ (fun hh => h3 (by rw [k2, hh]; rfl))
    omega
def lpo (p : Po) : LP := ⟨co p, p.1, p.2.length, fun i hi => co_in hi⟩
theorem poW_lpo {p : Po} (h1 : canon p) (h2 : ∀ x ∈ p.2, in64 x) : poW (lpo p) = p := by
  refine cano_eq h1 (fun e => ?_)
  show co p e = wrp (co p e)
  refine (wrp_in ?_).symm
  have := co_bd (p := p) (B := 9223372036854775808) (by omega) (fun x hx => by have := h2 x hx; unfold in64 at this; omega) e
  unfold co
  split
  · by_cases hj : (e - p.1).toNat < p.2.length
    · rw [getD_lt 0 hj]; exact h2 _ (List.getElem_mem hj)
    · rw [getD_out (by omega)]; unfold in64; omega
  · unfold in64; omega
theorem cvn_sI (a b : Po) (e : Int) : ∀ n : Nat, cvn a b n e = sI a.1 n (fun i => a.2.getD (i - a.1).toNat 0 * co b (e - i))
  | 0 => rfl
  | n + 1 => by
    rw [cvn_succ, cvn_sI a b e n]
    show _ = sI a.1 n (fun i => a.2.getD (i - a.1).toNat 0 * co b (e - i)) + a.2.getD (a.1 + (n : Int) - a.1).toNat 0 * co b (e - (a.1 + (n : Int)))
    rw [show (a.1 + (n : Int) - a.1).toNat = n by omega, show e - (a.1 + (n : Int)) = e - a.1 - n by omega]
theorem pmul_lpo (a b : Po) (e : Int) : pmul a b e = (lpo a * lpo b).f e := by
  rw [LP.mul_f, cvF_eq (lpo a) (lpo b) e (lo := a.1) (n := a.2.length) (fun i hi => co_in hi)]
  unfold pmul
  rw [cvn_sI]
  refine sI_congr (fun i h1 h2 => ?_)
  show _ = co a i * co b (e - i)
  congr 1
  unfold co
  rw [if_pos h1]
theorem mul_wrp (a b c d : LP) (h1 : ∀ e, wrp (a.f e) = wrp (c.f e)) (h2 : ∀ e, wrp (b.f e) = wrp (d.f e)) (e : Int) : wrp ((a * b).f e) = wrp ((c * d).f e) := by
  have hl : ∃ l n, Win a.f l n ∧ Win c.f l n := by
    refine ⟨min a.lo c.lo, (max (a.lo + a.n) (c.lo + c.n) - min a.lo c.lo).toNat, fun i hi => ?_, fun i hi => ?_⟩
    · have := a.win i hi; omega
    · have := c.win i hi; omega
  obtain ⟨l, n, ha, hc⟩ := hl
  rw [LP.mul_f, LP.mul_f, cvF_eq a b e ha, cvF_eq c d e hc]
  refine wrp_sum (fun i _ _ => ?_)
  rw [← wrp_mull, ← wrp_mulr, h1, h2, wrp_mulr, wrp_mull]
theorem lpo_poW (a : LP) (e : Int) : wrp ((lpo (poW a)).f e) = wrp (a.f e) := by
  show wrp (co (poW a) e) = _
  rw [poW_co, wrp_wrp]
theorem termW_s (c e : Int) (hc : in64 c) (he : -1000000000000 ≤ e ∧ e ≤ 1000000000000) : SC Try.prog 28 [pint c, pint e] (ppo (poW (LP.mono c e))) := by
  have := term_s c e he
  have e1 : cano (co (e, [c])) = poW (LP.mono c e) := congrArg cano (funext fun x => by
    rw [LP.mono_f]
    by_cases h : x = e
    · subst h
      rw [if_pos rfl, wrp_in hc]
      simpa using co_at (x, [c]) 0
    · rw [if_neg h]
      by_cases h2 : x < e
      · rw [co_lo (by simpa using h2)]; rfl
      · rw [co_hi (by simp; omega)]; rfl)
  rwa [e1] at this
theorem plusW_s (a b : LP) (k : Int) (ha : Sup 30000 a) (hb : Sup 30000 b) : SC Try.prog 39 [ppo (poW a), ppo (poW b), pint k] (ppo (poW (a + LP.smul k b))) := by
  have h1 := poW_bd ha (by omega)
  have h2 := poW_bd hb (by omega)
  have := plusG_s (poW a) (poW b) k (by omega) (by omega) (by omega) (by omega)
  have e1 : cano (fun e => wrp (co (poW a) e + k * co (poW b) e)) = poW (a + LP.smul k b) := congrArg cano (funext fun e => by
    rw [poW_co, poW_co, LP.add_f, LP.smul_f, wrp_addl, ← wrp_addr, wrp_mulr, wrp_addr])
  rwa [e1] at this
theorem timesW_s (a b : LP) (ha : Sup 4000 a) (hb : Sup 4000 b) : SC Try.prog 27 [ppo (poW a), ppo (poW b)] (ppo (poW (a * b))) := by
  have h1 := poW_bd ha (by omega)
  have h2 := poW_bd hb (by omega)
  have := timesG_s (poW a) (poW b) (by omega) (by omega) (by omega) (by omega)
  have e1 : cano (fun e => wrp (pmul (poW a) (poW b) e)) = poW (a * b) := congrArg cano (funext fun e => by
    rw [pmul_lpo]
    exact mul_wrp _ _ _ _ (lpo_poW a) (lpo_poW b) e)
  rwa [e1] at this
end Go.Proofs.Ytdlpbpfcgjgppaa
