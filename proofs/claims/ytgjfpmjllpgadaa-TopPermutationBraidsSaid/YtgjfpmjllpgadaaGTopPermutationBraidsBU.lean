/- timbmake: Below, Strands, Letter, Word. No condition of its own. -/
import Derived.Test.YtgjfpmjllpgadaaGTopPermutationBraidsAX
import Derived.Test.YtgjfpmjllpgadaaGTopPermutationBraidsAC
import Derived.Test.YtgjfpmjllpgadaaGTopPermutationBraidsAZ
import Derived.Test.YtgjfpmjllpgadaaGTopPermutationBraidsAV
set_option linter.unusedVariables false
set_option linter.unusedSimpArgs false
namespace Go.Proofs.Ytgjfpmjllpgadaa
open Go.RowKit

theorem below_eq (n m : Int) (hm : 0 < m) : (if n.tmod m < 0 then n.tmod m + m else n.tmod m) = n % m := by
  have h1 := Int.emod_nonneg n (show m ≠ 0 by omega)
  have h2 := Int.emod_lt_of_pos n hm
  rw [Int.tmod_eq_emod]
  split
  · split at * <;> omega
  · split at * <;> omega
set_option maxHeartbeats 2000000 in
set_option maxRecDepth 100000 in
theorem below_s (n m : Int) (hm : 0 < m ∧ m ≤ 1000) : SC Try.prog 112 [pint n, pint m] (pint (n % m)) := by
  have hb := below_eq n m hm.1
  have h1 := Int.emod_nonneg n (show m ≠ 0 by omega)
  have h2 := Int.emod_lt_of_pos n hm.1
  have h3 : -m ≤ n.tmod m ∧ n.tmod m < m := by
    split at hb <;> omega
  refine SC.go {} tok mixed Try.func112 rfl rfl Try.ntmps112 rfl rfl (by kernel_rfl) ?_
  first | simp only [updS] | simp only [updL, Nat.reduceAdd]
  by_cases hn : n.tmod m < 0
  · rw [if_pos hn] at hb
    repeat (first | refine S0 ?_ | refine S1 ?_ | refine S2 ?_ | refine S4 ?_ | refine S5 ?_ | refine S6 ?_ | refine S7 ?_ | refine S8 ?_ | refine S9 ?_ | refine S10 ?_ | refine S11 ?_ | refine S13 ?_ | refine S15 ?_ | refine S16 ?_ | refine S19 ?_ | refine S20 ?_ | refine S21 ?_ | refine S22 ?_ | refine S23 ?_ | refine S25 ?_ | refine S26 ?_ | refine S33 ?_ | refine S35 ?_ | refine S49 ?_ | refine S51 ?_ | refine S55 ?_ | refine S60 ?_ | refine S63 ?_ | refine S76 ?_)
    rw [← hb]
    exact ⟨.inr rfl, .cl rfl⟩
  · rw [if_neg hn] at hb
    repeat (first | refine S0 ?_ | refine S1 ?_ | refine S2 ?_ | refine S4 ?_ | refine S5 ?_ | refine S6 ?_ | refine S7 ?_ | refine S8 ?_ | refine S9 ?_ | refine S10 ?_ | refine S11 ?_ | refine S13 ?_ | refine S15 ?_ | refine S16 ?_ | refine S19 ?_ | refine S20 ?_ | refine S21 ?_ | refine S22 ?_ | refine S23 ?_ | refine S25 ?_ | refine S26 ?_ | refine S33 ?_ | refine S35 ?_ | refine S49 ?_ | refine S51 ?_ | refine S55 ?_ | refine S60 ?_ | refine S63 ?_ | refine S76 ?_)
    rw [← hb]
    exact ⟨.inr rfl, .cl rfl⟩
set_option maxHeartbeats 2000000 in
set_option maxRecDepth 100000 in
theorem strands_s (n m : Int) (hm : 2 ≤ m ∧ m ≤ 100) : SC Try.prog 58 [pint n, pint m] (pint (2 + n % (m - 1))) := by
  have hk := below_s n (m - 1) (by omega)
  have h1 := Int.emod_nonneg n (show m - 1 ≠ 0 by omega)
  have h2 := Int.emod_lt_of_pos n (show 0 < m - 1 by omega)
  refine SC.go {} tok mixed Try.func58 rfl rfl Try.ntmps58 rfl rfl (by kernel_rfl) ?_
  first | simp only [updS] | simp only [updL, Nat.reduceAdd]
  repeat (first | refine S0 ?_ | refine S1 ?_ | refine S2 ?_ | refine S4 ?_ | refine S5 ?_ | refine S6 ?_ | refine S7 ?_ | refine S8 ?_ | refine S9 ?_ | refine S10 ?_ | refine S11 ?_ | refine S13 ?_ | refine S15 ?_ | refine S16 ?_ | refine S19 ?_ | refine S20 ?_ | refine S21 ?_ | refine S22 ?_ | refine S23 ?_ | refine S25 ?_ | refine S26 ?_ | refine S33 ?_ | refine S35 ?_ | refine S49 ?_ | refine S51 ?_ | refine S55 ?_ | refine S60 ?_ | refine S63 ?_ | refine S76 ?_)
  refine Scall (args := [pint n, pint (m - 1)]) hk ?_
  repeat (first | refine S0 ?_ | refine S1 ?_ | refine S2 ?_ | refine S4 ?_ | refine S5 ?_ | refine S6 ?_ | refine S7 ?_ | refine S8 ?_ | refine S9 ?_ | refine S10 ?_ | refine S11 ?_ | refine S13 ?_ | refine S15 ?_ | refine S16 ?_ | refine S19 ?_ | refine S20 ?_ | refine S21 ?_ | refine S22 ?_ | refine S23 ?_ | refine S25 ?_ | refine S26 ?_ | refine S33 ?_ | refine S35 ?_ | refine S49 ?_ | refine S51 ?_ | refine S55 ?_ | refine S60 ?_ | refine S63 ?_ | refine S76 ?_)
  exact ⟨.inr rfl, .cl rfl⟩
def mkL (top x : Int) : Int := if x % (2 * top) < top then x % (2 * top) + 1 else -(x % (2 * top) - top + 1)
def mkW (top : Int) (raw : List Int) (most : Nat) : List Int := (raw.take most).map (mkL top)
end Go.Proofs.Ytgjfpmjllpgadaa

/- timbmake.Perm: a permutation out of any numbers. No condition of its own. -/
set_option linter.unusedVariables false
set_option linter.unusedSimpArgs false
namespace Go.Proofs.Ytgjfpmjllpgadaa
open Go.RowKit

/-- the place of the next number -/
def prI (raw : List Int) (k : Nat) (rest : List Int) : Nat := if k < raw.length then (raw.getD k 0 % (rest.length : Int)).toNat else 0
def prm (raw : List Int) : Nat → Nat → List Int → List Int
  | 0, _, _ => []
  | f + 1, k, rest => rest.getD (prI raw k rest) 0 :: prm raw f (k + 1) (rest.take (prI raw k rest) ++ rest.drop (prI raw k rest + 1))
theorem prI_lt {raw : List Int} {k : Nat} {rest : List Int} (h : 0 < rest.length) : prI raw k rest < rest.length := by
  unfold prI
  split
  · have h1 := Int.emod_nonneg (raw.getD k 0) (show (rest.length : Int) ≠ 0 by omega)
    have h2 := Int.emod_lt_of_pos (raw.getD k 0) (show (0 : Int) < rest.length by omega)
    omega
  · exact h
theorem erase_len {rest : List Int} {i : Nat} (h : i < rest.length) : (rest.take i ++ rest.drop (i + 1)).length + 1 = rest.length := by
  rw [List.length_append, List.length_take, List.length_drop]; omega
theorem prm_perm (raw : List Int) : ∀ (f k : Nat) (rest : List Int), rest.length = f → (prm raw f k rest).Perm rest
  | 0, _, rest, h => by rw [List.length_eq_zero_iff.1 h]; exact List.Perm.refl _
  | f + 1, k, rest, h => by
    have hi := prI_lt (raw := raw) (k := k) (rest := rest) (by omega)
    have hl := erase_len hi
    have ih := prm_perm raw f (k + 1) (rest.take (prI raw k rest) ++ rest.drop (prI raw k rest + 1)) (by omega)
    show (rest.getD (prI raw k rest) 0 :: prm raw f (k + 1) _).Perm rest
    refine (List.Perm.cons _ ih).trans ?_
    have e : rest = rest.take (prI raw k rest) ++ rest.getD (prI raw k rest) 0 :: rest.drop (prI raw k rest + 1) := by
      have h1 : rest.drop (prI raw k rest) = rest.getD (prI raw k rest) 0 :: rest.drop (prI raw k rest + 1) := by
        rw [List.drop_eq_getElem_cons hi, getD_lt 0 hi]
      rw [← h1, List.take_append_drop]
    conv => rhs; rw [e]
    exact List.perm_middle.symm
theorem prm_isP {raw : List Int} {n : Nat} : ∃ f, IsP f n ∧ prm raw n 0 (tabN n id) = tabN n f := by
  have hp := prm_perm raw n 0 (tabN n id) (tab_len n id)
  have hl : (prm raw n 0 (tabN n id)).length = n := by rw [hp.length_eq, tab_len]
  have hm : Pm (prm raw n 0 (tabN n id)) := by
    refine ⟨fun i hi => ?_, ?_⟩
    · have : (prm raw n 0 (tabN n id)).getD i 0 ∈ tabN n id := by
        rw [← hp.mem_iff, getD_lt 0 hi]; exact List.getElem_mem hi
      obtain ⟨j, hj, e⟩ := List.mem_map.1 this
      have := List.mem_range.1 hj
      rw [← e, hl]
      simp only [id]; omega
    · refine hp.nodup_iff.2 ?_
      exact List.pairwise_map.2 (List.Pairwise.imp (fun h e => h (by simp only [id] at e; exact Int.ofNat.inj e)) List.nodup_range)
  refine ⟨fn (prm raw n 0 (tabN n id)), ?_, ?_⟩
  · have := hm.isP
    rwa [hl] at this
  · have := hm.tabN
    rwa [hl] at this
/-- a value that reads as the list xs: frozen, of one's own, or an empty literal -/
def LiV (h : HP) (to : Nat) (pv : PV) (xs : List Int) : Prop := pv = pli xs ∨ (∃ tr, pv = .ref tr 0 1 xs.length ∧ h.blk tr = some (ints xs) ∧ tr ≠ to) ∨ (xs = [] ∧ pv = .lst true 1 0 [])
theorem CW.toPli {P : Program} {T : TypeId → TI} {M : Hn} {n to : Nat} {c : Code} {t : Nat → PV} {h : HP} {Q : Exit → AS → Prop} (d : Nat) {xs : List Int} (hv : LiV h to (t d) xs) (hk : ∀ h' : HP, h'.next = h.next → h'.blk to = h.blk to → CW P T M n c ⟨upd t d (pli xs), h'⟩ Q) : CW P T M n c ⟨t, h⟩ Q := by
  rcases hv with h1 | ⟨tr, h1, h2, h3⟩ | ⟨rfl, h1⟩
  · have e : upd t d (pli xs) = t := by
      funext x
      unfold upd
      split
      · rename_i hx; rw [hx, h1]
      · rfl
    have := hk h rfl rfl
    rwa [e] at this
  · exact CW.freezeI (xs := xs) d h1 h2 (hk _ rfl (HP.kill_other _ (fun e => h3 e.symm)))
  · exact CW.nrmS d (v := pli []) (by rw [h1]; rfl) (hk h rfl rfl)
set_option maxHeartbeats 16000000 in
set_option maxRecDepth 100000 in
theorem mperm_s {n : Nat} {raw : List Int} (hn : n ≤ 6) : SC Try.prog 59 [pint n, pli raw] (pli (prm raw n 0 (tabN n id))) := by
  refine SC.go {} tok mixed Try.func59 rfl rfl Try.ntmps59 rfl rfl (by kernel_rfl) ?_
  first | simp only [updS] | simp only [updL, Nat.reduceAdd]
  repeat (first | refine S0 ?_ | refine S1 ?_ | refine S2 ?_ | refine S3 ?_ | refine S4 ?_ | refine S5 ?_ | refine S6 ?_ | refine S7 ?_ | refine S8 ?_ | refine S10 ?_ | refine S11 ?_ | refine S13 ?_ | refine S15 ?_ | refine S16 ?_ | refine S19 ?_ | refine S20 ?_ | refine S21 ?_ | refine S22 ?_ | refine S23 ?_ | refine S24 ?_ | refine S25 ?_ | refine S26 ?_ | refine S27 ?_ | refine S30 ?_ | refine S49 ?_ | refine S59 ?_ | refine S60 ?_ | refine S63 ?_ | refine S64 ?_ | refine S65 ?_ | refine S71 ?_)
  refine CW.loopS (fun i : Nat => i ≤ n) (fun i => [(1, pli raw), (5, .ref 0 0 1 n), (13, pint n), (14, pint i)]) (fun i hp => hp.blk 0 = some (ints (tabN n (fun j => if j < i then j else 0))) ∧ 1 ≤ hp.next) (fun i => n - i) 0 ⟨Nat.zero_le _, SLx, by rw [show tabN n (fun j => if j < 0 then j else 0) = List.replicate n (0 : Int) by apply List.ext_getElem <;> simp [tabN]]; exact HBx, (by first | omega | (simp only [HP.tokF, HP.tokT, HP.next_add, HP.next_set, HP.next_kill, HP.next_H0, HP.next_addS, HP.next_setS, HP.next_killS, HP.next_put, HP.next_bump, HP.next_putS]; omega))⟩ ?_
  rintro i t hp hi ⟨hB, hnx⟩
  first | simp only [updS] | simp only [updL, Nat.reduceAdd]
  have hl := tab_len n (fun j => if j < i then j else 0)
  by_cases hin : i < n
  · have hset : (tabN n (fun j => if j < i then j else 0)).set i (i : Int) = tabN n (fun j => if j < i + 1 then j else 0) := by
      apply List.ext_getElem (by simp)
      intro j h1 h2
      simp only [tab_len] at h2
      rw [List.getElem_set]
      by_cases e : i = j
      · subst e; rw [if_pos rfl]; simp [tabN]
      · rw [if_neg e]
        simp only [tabN, List.getElem_map, List.getElem_range]
        by_cases h : j < i
        · rw [if_pos h, if_pos (by omega)]
        · rw [if_neg h, if_neg (by omega)]
    repeat (first | refine S0 ?_ | refine S1 ?_ | refine S2 ?_ | refine S3 ?_ | refine S4 ?_ | refine S5 ?_ | refine S6 ?_ | refine S7 ?_ | refine S8 ?_ | refine S10 ?_ | refine S11 ?_ | refine S13 ?_ | refine S15 ?_ | refine S16 ?_ | refine S19 ?_ | refine S20 ?_ | refine S21 ?_ | refine S22 ?_ | refine S23 ?_ | refine S24 ?_ | refine S25 ?_ | refine S26 ?_ | refine S27 ?_ | refine S30 ?_ | refine S49 ?_ | refine S59 ?_ | refine S60 ?_ | refine S63 ?_ | refine S64 ?_ | refine S65 ?_ | refine S71 ?_)
    rw [hset]
    exact ⟨i + 1, hin, SLx, ⟨HBx, (by first | omega | (simp only [HP.tokF, HP.tokT, HP.next_add, HP.next_set, HP.next_kill, HP.next_H0, HP.next_addS, HP.next_setS, HP.next_killS, HP.next_put, HP.next_bump, HP.next_putS]; omega))⟩, by omega⟩
  · have e : i = n := by omega
    rw [show tabN n (fun j => if j < i then j else 0) = tabN n id from tab_ext (fun j hj => by rw [if_pos (by omega)]; rfl)] at hB
    have hl2 := tab_len n id
    refine CW.freezeI (xs := tabN n id) 5 (by rw [hl2]; rfl) hB ?_
    repeat (first | refine S0 ?_ | refine S1 ?_ | refine S2 ?_ | refine S3 ?_ | refine S4 ?_ | refine S5 ?_ | refine S6 ?_ | refine S7 ?_ | refine S8 ?_ | refine S10 ?_ | refine S11 ?_ | refine S13 ?_ | refine S15 ?_ | refine S16 ?_ | refine S19 ?_ | refine S20 ?_ | refine S21 ?_ | refine S22 ?_ | refine S23 ?_ | refine S24 ?_ | refine S25 ?_ | refine S26 ?_ | refine S27 ?_ | refine S30 ?_ | refine S49 ?_ | refine S59 ?_ | refine S60 ?_ | refine S63 ?_ | refine S64 ?_ | refine S65 ?_ | refine S71 ?_)
    refine CW.own 7 1 rfl ?_
    obtain ⟨T0, hT0⟩ : ∃ T0, T0 = (hp.kill 0).tok false := ⟨_, rfl⟩
    have hT0e : T0 % 2 = 0 := by rw [hT0]; exact HP.tok_even _
    refine CW.loopS (fun i : Nat × List Int × List Int × Nat × PV => i.1 + i.2.1.length = n ∧ i.2.2.1.length = i.1 ∧ i.2.2.1 ++ prm raw i.2.1.length i.1 i.2.1 = prm raw n 0 (tabN n id) ∧ i.2.2.2.1 % 2 = 0) (fun i => [(1, pli raw), (5, i.2.2.2.2), (7, .ref i.2.2.2.1 0 1 i.1), (8, pint i.1)]) (fun i hp => hp.blk i.2.2.2.1 = some (ints i.2.2.1) ∧ i.2.2.2.1 < 2 * hp.next ∧ LiV hp i.2.2.2.1 i.2.2.2.2 i.2.1) (fun i => i.2.1.length) (0, tabN n id, [], T0, pli (tabN n id)) ⟨⟨by simp, rfl, by simp only [hl2]; rfl, hT0e⟩, by rw [hT0]; exact SLx, by rw [hT0]; exact HP.add_same _ _ _, by rw [hT0]; exact (by first | omega | (simp only [HP.tokF, HP.tokT, HP.next_add, HP.next_set, HP.next_kill, HP.next_H0, HP.next_addS, HP.next_setS, HP.next_killS, HP.next_put, HP.next_bump, HP.next_putS]; omega)), .inl rfl⟩ ?_
    clear hB hnx t hT0 hT0e T0
    rintro ⟨k, rest, out, to, pv⟩ t hp' ⟨hk, hol, heq, hte⟩ ⟨hB, hlt, hV⟩
    simp only at hk hol heq hte hB hlt hV
    first | simp only [updS] | simp only [updL, Nat.reduceAdd]
    refine CW.toPli (to := to) (xs := rest) 5 hV (fun hp2 hn' hb' => ?_)
    rw [← hb'] at hB
    rw [← hn'] at hlt
    clear hV hn' hb' hp'
    by_cases hr0 : 0 < rest.length
    · obtain ⟨f, hf⟩ : ∃ f, rest.length = f + 1 := ⟨rest.length - 1, by omega⟩
      have hi := prI_lt (raw := raw) (k := k) hr0
      have hel := erase_len hi
      have kb := below_s (raw.getD k 0) rest.length (by omega)
      obtain ⟨q, hq⟩ : ∃ q, q = prI raw k rest := ⟨_, rfl⟩
      have heq2 : (out ++ [rest.getD q 0]) ++ prm raw f (k + 1) (rest.take q ++ rest.drop (q + 1)) = prm raw n 0 (tabN n id) := by
        rw [← heq, hf, hq, List.append_assoc]; rfl
      rw [← hq] at hi hel
      repeat (first | refine S0 ?_ | refine S1 ?_ | refine S2 ?_ | refine S3 ?_ | refine S4 ?_ | refine S5 ?_ | refine S6 ?_ | refine S7 ?_ | refine S8 ?_ | refine S10 ?_ | refine S11 ?_ | refine S13 ?_ | refine S15 ?_ | refine S16 ?_ | refine S19 ?_ | refine S20 ?_ | refine S21 ?_ | refine S22 ?_ | refine S23 ?_ | refine S24 ?_ | refine S25 ?_ | refine S26 ?_ | refine S27 ?_ | refine S30 ?_ | refine S49 ?_ | refine S59 ?_ | refine S60 ?_ | refine S63 ?_ | refine S64 ?_ | refine S65 ?_ | refine S71 ?_)
      refine CW.midS (fun _ : Unit => True) (fun _ => [(1, pli raw), (5, pli rest), (7, .ref to 0 1 k), (8, pint k), (9, pint q)]) (fun _ h => h.blk to = some (ints out) ∧ to < 2 * h.next) ?_ ?_
      · by_cases hkr : k < raw.length
        · have e : raw.getD k 0 % (rest.length : Int) = (q : Int) := by
            have h1 := Int.emod_nonneg (raw.getD k 0) (show (rest.length : Int) ≠ 0 by omega)
            rw [hq]; unfold prI; rw [if_pos hkr]; omega
          repeat (first | refine S0 ?_ | refine S1 ?_ | refine S2 ?_ | refine S3 ?_ | refine S4 ?_ | refine S5 ?_ | refine S6 ?_ | refine S7 ?_ | refine S8 ?_ | refine S10 ?_ | refine S11 ?_ | refine S13 ?_ | refine S15 ?_ | refine S16 ?_ | refine S19 ?_ | refine S20 ?_ | refine S21 ?_ | refine S22 ?_ | refine S23 ?_ | refine S24 ?_ | refine S25 ?_ | refine S26 ?_ | refine S27 ?_ | refine S30 ?_ | refine S49 ?_ | refine S59 ?_ | refine S60 ?_ | refine S63 ?_ | refine S64 ?_ | refine S65 ?_ | refine S71 ?_)
          refine Scall (args := [pint (raw.getD k 0), pint rest.length]) kb ?_
          rw [e]
          repeat (first | refine S0 ?_ | refine S1 ?_ | refine S2 ?_ | refine S3 ?_ | refine S4 ?_ | refine S5 ?_ | refine S6 ?_ | refine S7 ?_ | refine S8 ?_ | refine S10 ?_ | refine S11 ?_ | refine S13 ?_ | refine S15 ?_ | refine S16 ?_ | refine S19 ?_ | refine S20 ?_ | refine S21 ?_ | refine S22 ?_ | refine S23 ?_ | refine S24 ?_ | refine S25 ?_ | refine S26 ?_ | refine S27 ?_ | refine S30 ?_ | refine S49 ?_ | refine S59 ?_ | refine S60 ?_ | refine S63 ?_ | refine S64 ?_ | refine S65 ?_ | refine S71 ?_)
          exact ⟨(), trivial, SLx, hB, hlt⟩
        · have e : q = 0 := by rw [hq]; unfold prI; rw [if_neg hkr]
          rw [e]
          repeat (first | refine S0 ?_ | refine S1 ?_ | refine S2 ?_ | refine S3 ?_ | refine S4 ?_ | refine S5 ?_ | refine S6 ?_ | refine S7 ?_ | refine S8 ?_ | refine S10 ?_ | refine S11 ?_ | refine S13 ?_ | refine S15 ?_ | refine S16 ?_ | refine S19 ?_ | refine S20 ?_ | refine S21 ?_ | refine S22 ?_ | refine S23 ?_ | refine S24 ?_ | refine S25 ?_ | refine S26 ?_ | refine S27 ?_ | refine S30 ?_ | refine S49 ?_ | refine S59 ?_ | refine S60 ?_ | refine S63 ?_ | refine S64 ?_ | refine S65 ?_ | refine S71 ?_)
          exact ⟨(), trivial, SLx, hB, hlt⟩
      clear hB hlt hp2 t
      rintro _ t hp' _ ⟨hB, hlt⟩
      first | simp only [updS] | simp only [updL, Nat.reduceAdd]
      have eq1 : ((q : Int) + 1).toNat = q + 1 := by omega
      have htl : (rest.take q).length = q := by rw [List.length_take]; omega
      have hdl : (rest.drop (q + 1)).length = rest.length - (q + 1) := List.length_drop
      by_cases hq0 : q = 0
      · have ht0 : rest.take q = [] := by rw [hq0]; rfl
        by_cases hqe : q + 1 = rest.length
        · have hd0 : rest.drop (q + 1) = [] := List.drop_eq_nil_of_le (by omega)
          repeat (first | refine S0 ?_ | refine S1 ?_ | refine S2 ?_ | refine S3 ?_ | refine S4 ?_ | refine S5 ?_ | refine S6 ?_ | refine S7 ?_ | refine S8 ?_ | refine S10 ?_ | refine S11 ?_ | refine S13 ?_ | refine S15 ?_ | refine S16 ?_ | refine S19 ?_ | refine S20 ?_ | refine S21 ?_ | refine S22 ?_ | refine S23 ?_ | refine S24 ?_ | refine S25 ?_ | refine S26 ?_ | refine S27 ?_ | refine S30 ?_ | refine S49 ?_ | refine S59 ?_ | refine S60 ?_ | refine S63 ?_ | refine S64 ?_ | refine S65 ?_ | refine S71 ?_)
          rw [ht0]
          refine AW.ap0 (by first | exact Or.inl rfl | exact Or.inr ⟨rfl, HP.tok_even _⟩ | exact Or.inr (Or.inl ⟨rfl, HP.tok_even _⟩) | exact Or.inr (Or.inr ⟨rfl, HP.tok_odd _⟩) | exact Or.inr (Or.inl rfl) | exact Or.inr (Or.inr (Or.inl rfl)) | exact Or.inr (Or.inr (Or.inr (Or.inl ⟨rfl, HP.tok_odd _⟩))) | exact Or.inr (Or.inr (Or.inr (Or.inr ⟨rfl, HP.tok_even _⟩))) | exact Or.inr (Or.inr (Or.inr (Or.inr ⟨rfl, by assumption⟩))) | exact Or.inr ⟨rfl, by assumption⟩ | exact Or.inr (Or.inl ⟨rfl, by assumption⟩) | exact Or.inr (Or.inr ⟨rfl, by assumption⟩) | exact Or.inr (Or.inr (Or.inr (Or.inl ⟨rfl, by assumption⟩))) | exact Or.inr (Or.inr (Or.inl ⟨rfl, HP.tok_odd _⟩)) | exact Or.inr (Or.inr (Or.inl ⟨rfl, by assumption⟩)) | exact Or.inr (Or.inr (Or.inr rfl)) | exact Or.inr (Or.inr rfl) | exact Or.inr rfl) (by simp only [evA, upd, putA, ofConst, ofConst.ofCell, Nat.reduceEqDiff, ↓reduceIte, List.map_cons, List.map_nil, List.toList_toArray]; first | done | rfl) rfl (by first | exact ⟨rfl, rfl, .inr rfl⟩ | exact ⟨rfl, rfl, .inl rfl⟩ | (simp only [evA, upd, putA, Nat.reduceEqDiff, ↓reduceIte]; first | exact ⟨rfl, rfl, .inr rfl⟩ | exact ⟨rfl, rfl, .inl rfl⟩)) ?_
          repeat (first | refine S0 ?_ | refine S1 ?_ | refine S2 ?_ | refine S3 ?_ | refine S4 ?_ | refine S5 ?_ | refine S6 ?_ | refine S7 ?_ | refine S8 ?_ | refine S10 ?_ | refine S11 ?_ | refine S13 ?_ | refine S15 ?_ | refine S16 ?_ | refine S19 ?_ | refine S20 ?_ | refine S21 ?_ | refine S22 ?_ | refine S23 ?_ | refine S24 ?_ | refine S25 ?_ | refine S26 ?_ | refine S27 ?_ | refine S30 ?_ | refine S49 ?_ | refine S59 ?_ | refine S60 ?_ | refine S63 ?_ | refine S64 ?_ | refine S65 ?_ | refine S71 ?_)
          rw [hd0]
          refine AW.ap0 (by first | exact Or.inl rfl | exact Or.inr ⟨rfl, HP.tok_even _⟩ | exact Or.inr (Or.inl ⟨rfl, HP.tok_even _⟩) | exact Or.inr (Or.inr ⟨rfl, HP.tok_odd _⟩) | exact Or.inr (Or.inl rfl) | exact Or.inr (Or.inr (Or.inl rfl)) | exact Or.inr (Or.inr (Or.inr (Or.inl ⟨rfl, HP.tok_odd _⟩))) | exact Or.inr (Or.inr (Or.inr (Or.inr ⟨rfl, HP.tok_even _⟩))) | exact Or.inr (Or.inr (Or.inr (Or.inr ⟨rfl, by assumption⟩))) | exact Or.inr ⟨rfl, by assumption⟩ | exact Or.inr (Or.inl ⟨rfl, by assumption⟩) | exact Or.inr (Or.inr ⟨rfl, by assumption⟩) | exact Or.inr (Or.inr (Or.inr (Or.inl ⟨rfl, by assumption⟩))) | exact Or.inr (Or.inr (Or.inl ⟨rfl, HP.tok_odd _⟩)) | exact Or.inr (Or.inr (Or.inl ⟨rfl, by assumption⟩)) | exact Or.inr (Or.inr (Or.inr rfl)) | exact Or.inr (Or.inr rfl) | exact Or.inr rfl) (by simp only [evA, upd, putA, ofConst, ofConst.ofCell, Nat.reduceEqDiff, ↓reduceIte, List.map_cons, List.map_nil, List.toList_toArray]; first | done | rfl) rfl (by first | exact ⟨rfl, rfl, .inr rfl⟩ | exact ⟨rfl, rfl, .inl rfl⟩ | (simp only [evA, upd, putA, Nat.reduceEqDiff, ↓reduceIte]; first | exact ⟨rfl, rfl, .inr rfl⟩ | exact ⟨rfl, rfl, .inl rfl⟩)) ?_
          repeat (first | refine S0 ?_ | refine S1 ?_ | refine S2 ?_ | refine S3 ?_ | refine S4 ?_ | refine S5 ?_ | refine S6 ?_ | refine S7 ?_ | refine S8 ?_ | refine S10 ?_ | refine S11 ?_ | refine S13 ?_ | refine S15 ?_ | refine S16 ?_ | refine S19 ?_ | refine S20 ?_ | refine S21 ?_ | refine S22 ?_ | refine S23 ?_ | refine S24 ?_ | refine S25 ?_ | refine S26 ?_ | refine S27 ?_ | refine S30 ?_ | refine S49 ?_ | refine S59 ?_ | refine S60 ?_ | refine S63 ?_ | refine S64 ?_ | refine S65 ?_ | refine S71 ?_)
          refine ⟨(k + 1, [], out ++ [rest.getD q 0], hp'.tok false, .lst true 1 0 []), ⟨by simp only [List.length_nil]; omega, by rw [List.length_append]; simp only [List.length_singleton]; omega, ?_, HP.tok_even _⟩, SLx, ⟨HBx, (by first | omega | (simp only [HP.tokF, HP.tokT, HP.next_add, HP.next_set, HP.next_kill, HP.next_H0, HP.next_addS, HP.next_setS, HP.next_killS, HP.next_put, HP.next_bump, HP.next_putS]; omega)), .inr (.inr ⟨rfl, rfl⟩)⟩, by simp only [List.length_nil]; omega⟩
          rw [ht0, hd0, show f = 0 by omega] at heq2
          exact heq2
        · repeat (first | refine S0 ?_ | refine S1 ?_ | refine S2 ?_ | refine S3 ?_ | refine S4 ?_ | refine S5 ?_ | refine S6 ?_ | refine S7 ?_ | refine S8 ?_ | refine S10 ?_ | refine S11 ?_ | refine S13 ?_ | refine S15 ?_ | refine S16 ?_ | refine S19 ?_ | refine S20 ?_ | refine S21 ?_ | refine S22 ?_ | refine S23 ?_ | refine S24 ?_ | refine S25 ?_ | refine S26 ?_ | refine S27 ?_ | refine S30 ?_ | refine S49 ?_ | refine S59 ?_ | refine S60 ?_ | refine S63 ?_ | refine S64 ?_ | refine S65 ?_ | refine S71 ?_)
          rw [ht0]
          refine AW.ap0 (by first | exact Or.inl rfl | exact Or.inr ⟨rfl, HP.tok_even _⟩ | exact Or.inr (Or.inl ⟨rfl, HP.tok_even _⟩) | exact Or.inr (Or.inr ⟨rfl, HP.tok_odd _⟩) | exact Or.inr (Or.inl rfl) | exact Or.inr (Or.inr (Or.inl rfl)) | exact Or.inr (Or.inr (Or.inr (Or.inl ⟨rfl, HP.tok_odd _⟩))) | exact Or.inr (Or.inr (Or.inr (Or.inr ⟨rfl, HP.tok_even _⟩))) | exact Or.inr (Or.inr (Or.inr (Or.inr ⟨rfl, by assumption⟩))) | exact Or.inr ⟨rfl, by assumption⟩ | exact Or.inr (Or.inl ⟨rfl, by assumption⟩) | exact Or.inr (Or.inr ⟨rfl, by assumption⟩) | exact Or.inr (Or.inr (Or.inr (Or.inl ⟨rfl, by assumption⟩))) | exact Or.inr (Or.inr (Or.inl ⟨rfl, HP.tok_odd _⟩)) | exact Or.inr (Or.inr (Or.inl ⟨rfl, by assumption⟩)) | exact Or.inr (Or.inr (Or.inr rfl)) | exact Or.inr (Or.inr rfl) | exact Or.inr rfl) (by simp only [evA, upd, putA, ofConst, ofConst.ofCell, Nat.reduceEqDiff, ↓reduceIte, List.map_cons, List.map_nil, List.toList_toArray]; first | done | rfl) rfl (by first | exact ⟨rfl, rfl, .inr rfl⟩ | exact ⟨rfl, rfl, .inl rfl⟩ | (simp only [evA, upd, putA, Nat.reduceEqDiff, ↓reduceIte]; first | exact ⟨rfl, rfl, .inr rfl⟩ | exact ⟨rfl, rfl, .inl rfl⟩)) ?_
          repeat (first | refine S0 ?_ | refine S1 ?_ | refine S2 ?_ | refine S3 ?_ | refine S4 ?_ | refine S5 ?_ | refine S6 ?_ | refine S7 ?_ | refine S8 ?_ | refine S10 ?_ | refine S11 ?_ | refine S13 ?_ | refine S15 ?_ | refine S16 ?_ | refine S19 ?_ | refine S20 ?_ | refine S21 ?_ | refine S22 ?_ | refine S23 ?_ | refine S24 ?_ | refine S25 ?_ | refine S26 ?_ | refine S27 ?_ | refine S30 ?_ | refine S49 ?_ | refine S59 ?_ | refine S60 ?_ | refine S63 ?_ | refine S64 ?_ | refine S65 ?_ | refine S71 ?_)
          refine ⟨(k + 1, rest.drop (q + 1), out ++ [rest.getD q 0], hp'.tok false, _), ⟨by simp only; omega, by rw [List.length_append]; simp only [List.length_singleton]; omega, ?_, HP.tok_even _⟩, SLx, ⟨HBx, (by first | omega | (simp only [HP.tokF, HP.tokT, HP.next_add, HP.next_set, HP.next_kill, HP.next_H0, HP.next_addS, HP.next_setS, HP.next_killS, HP.next_put, HP.next_bump, HP.next_putS]; omega)), .inr (.inl ⟨_, rfl, HBx, ?_⟩)⟩, by simp only; omega⟩
          · rw [ht0, show f = (rest.drop (q + 1)).length by omega] at heq2
            exact heq2
          · simp only [HP.tokF]; show 2 * (hp'.next + 1) ≠ 2 * hp'.next; omega
      · repeat (first | refine S0 ?_ | refine S1 ?_ | refine S2 ?_ | refine S3 ?_ | refine S4 ?_ | refine S5 ?_ | refine S6 ?_ | refine S7 ?_ | refine S8 ?_ | refine S10 ?_ | refine S11 ?_ | refine S13 ?_ | refine S15 ?_ | refine S16 ?_ | refine S19 ?_ | refine S20 ?_ | refine S21 ?_ | refine S22 ?_ | refine S23 ?_ | refine S24 ?_ | refine S25 ?_ | refine S26 ?_ | refine S27 ?_ | refine S30 ?_ | refine S49 ?_ | refine S59 ?_ | refine S60 ?_ | refine S63 ?_ | refine S64 ?_ | refine S65 ?_ | refine S71 ?_)
        refine ⟨(k + 1, rest.take q ++ rest.drop (q + 1), out ++ [rest.getD q 0], hp'.tok false, _), ⟨by simp only; omega, by rw [List.length_append]; simp only [List.length_singleton]; omega, ?_, HP.tok_even _⟩, SLx, ⟨HBx, (by first | omega | (simp only [HP.tokF, HP.tokT, HP.next_add, HP.next_set, HP.next_kill, HP.next_H0, HP.next_addS, HP.next_setS, HP.next_killS, HP.next_put, HP.next_bump, HP.next_putS]; omega)), .inr (.inl ⟨_, by rw [List.length_append], HBx, ?_⟩)⟩, by simp only; omega⟩
        · rw [show f = (rest.take q ++ rest.drop (q + 1)).length by omega] at heq2
          exact heq2
        · simp only [HP.tokF]; show 2 * (hp'.next + 1 + 1) ≠ 2 * hp'.next; omega
    · have hr1 : rest = [] := List.length_eq_zero_iff.1 (by omega)
      rw [hr1] at heq
      have heq2 : out = prm raw n 0 (tabN n id) := by rw [← heq]; show out = out ++ []; rw [List.append_nil]
      repeat (first | refine S0 ?_ | refine S1 ?_ | refine S2 ?_ | refine S3 ?_ | refine S4 ?_ | refine S5 ?_ | refine S6 ?_ | refine S7 ?_ | refine S8 ?_ | refine S10 ?_ | refine S11 ?_ | refine S13 ?_ | refine S15 ?_ | refine S16 ?_ | refine S19 ?_ | refine S20 ?_ | refine S21 ?_ | refine S22 ?_ | refine S23 ?_ | refine S24 ?_ | refine S25 ?_ | refine S26 ?_ | refine S27 ?_ | refine S30 ?_ | refine S49 ?_ | refine S59 ?_ | refine S60 ?_ | refine S63 ?_ | refine S64 ?_ | refine S65 ?_ | refine S71 ?_)
      rw [← heq2]
      exact ⟨.inr rfl, Fz.refI hB hol.symm rfl⟩
end Go.Proofs.Ytgjfpmjllpgadaa
