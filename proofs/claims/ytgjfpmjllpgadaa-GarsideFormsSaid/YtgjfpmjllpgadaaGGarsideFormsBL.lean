/- garside.Word, the reference's Written; the law GarsideWords holds for all numbers and lists. No condition of its own. -/
import Derived.Test.YtgjfpmjllpgadaaGGarsideFormsBI
import Derived.Test.YtgjfpmjllpgadaaGGarsideFormsBJ
import Derived.Test.YtgjfpmjllpgadaaGGarsideFormsBK
set_option linter.unusedVariables false
set_option linter.unusedSimpArgs false
namespace Go.Proofs.Ytgjfpmjllpgadaa
open Go.RowKit

def twN (N : Nat) : List Int := spell (rvT N)
theorem tw_len {N : Nat} (h : 2 ≤ N ∧ N ≤ 6) : 1 ≤ (twN N).length ∧ (twN N).length ≤ 15 := by
  rcases le6 h with rfl | rfl | rfl | rfl | rfl <;> decide +kernel
theorem rv_ent {N : Nat} (h : 2 ≤ N ∧ N ≤ 6) : Ent (rvT N) := by
  rcases le6 h with rfl | rfl | rfl | rfl | rfl <;> exact ⟨by decide, by decide⟩
theorem tw_bd {N : Nat} (h : 2 ≤ N ∧ N ≤ 6) : ∀ x ∈ twN N, 1 ≤ x ∧ x ≤ 5 := spell_mem (rv_ent h)
theorem invL_len' (w : List Int) : (invL w).length = w.length := by simp [invL]
def twS (N : Nat) (power : Int) : List Int := if power < 0 then invL (twN N) else twN N
def wrt (N : Nat) (power : Int) (l : List (List Int)) : List Int := rp (twS N power) power.natAbs ++ l.flatMap spell
theorem fm_take {l : List (List Int)} {i : Nat} (h : i < l.length) : (l.take (i + 1)).flatMap spell = (l.take i).flatMap spell ++ spell (l.getD i []) := by
  rw [List.take_add_one, List.getElem?_eq_getElem h, List.flatMap_append]
  simp [List.getD, h]
theorem ent_of {N : Nat} (h : 2 ≤ N ∧ N ≤ 6) {p : List Int} (hf : permFault p = 0) (hl : p.length = N) : Ent p := by
  obtain ⟨_, hr, _⟩ := permFault_range hf
  refine ⟨by omega, fun x hx => ?_⟩
  obtain ⟨i, hi, rfl⟩ := List.getElem_of_mem hx
  have := hr i hi
  rw [getD_lt 0 hi] at this
  omega
theorem ents_of {n : Int} {l : List (List Int)} (h : gF n l = 0) : ∃ N : Nat, n = (N : Int) ∧ (2 ≤ N ∧ N ≤ 6) ∧ l.length ≤ 30 ∧ ∀ i, i < l.length → Ent (l.getD i []) := by
  unfold gF at h
  split at h
  · cases h
  · rename_i hn
    split at h
    · cases h
    · rename_i hl
      refine ⟨n.toNat, by omega, by omega, by omega, fun i hi => ?_⟩
      have hg := gFrom_all _ _ h i (Nat.zero_le _) (by omega)
      obtain ⟨q1, q2⟩ := gAt_ok hg
      exact ent_of (N := n.toNat) (by omega) q1 q2
def gwF (n power : Int) (l : List (List Int)) : Int := if gF n l ≠ 0 then gF n l else if power < -30 ∨ 30 < power then 2 else if 30 < (wrt n.toNat power l).length then 2 else 0
def gwL (n power : Int) (l : List (List Int)) : List Int := if gwF n power l = 0 then wrt n.toNat power l else []
theorem repeat_rp {d : List Int} {k : Nat} (hd : 1 ≤ d.length ∧ d.length ≤ 15) (hk : k ≤ 30) : SCo Try.prog 107 [pli d, pint k] 1 (rp d k).length (ints (rp d k)) := by
  by_cases h0 : k = 0
  · subst h0; exact repeat_0 (by omega)
  · have h1 : d.length * k ≤ 15 * 30 := Nat.mul_le_mul hd.2 hk
    have := repeat_o (d := d) (k := k) (by omega) (by omega) (by omega)
    rw [repT_rp (by omega)] at this
    rw [rp_len]; exact this
set_option maxHeartbeats 32000000 in
set_option maxRecDepth 100000 in
theorem written_pos {N q : Nat} {l : List (List Int)} (h : gF N l = 0) (hq : q ≤ 30) : SC Try.prog 55 [pint N, pint ((q : Nat) : Int), plls l] (pli (rp (twN N) q ++ l.flatMap spell)) := by
  obtain ⟨N', hNN, hN, hl30, hE⟩ := ents_of h
  obtain rfl : N = N' := by omega
  have kh := full_s hN
  have kw := (spelled_o _ _ (rv_ent hN) (Nat.le_refl _)).sc (by simp)
  have htl := tw_len hN
  have htb := tw_bd hN
  rw [show spell (rvT N) = twN N from rfl, show PV.lst false 1 (twN N).length (ints (twN N)) = pli (twN N) from rfl] at kw
  obtain ⟨d, hd⟩ : ∃ d, d = twN N := ⟨_, rfl⟩
  have hdl : 1 ≤ d.length ∧ d.length ≤ 15 := by rw [hd]; exact htl
  have kr := repeat_rp (k := q) hdl hq
  have hrl : (rp d q).length ≤ 450 := by
    rw [rp_len]
    have : d.length * q ≤ 15 * 30 := Nat.mul_le_mul hdl.2 hq
    omega
  rw [← hd]
  refine SC.go {} tok mixed Try.func55 rfl rfl Try.ntmps55 rfl rfl (by kernel_rfl) ?_
  first | simp only [updS] | simp only [updL, Nat.reduceAdd]
  repeat (first | refine S0 ?_ | refine S1 ?_ | refine S2 ?_ | refine S4 ?_ | refine S5 ?_ | refine S6 ?_ | refine S7 ?_ | refine S8 ?_ | refine S9 ?_ | refine S10 ?_ | refine S11 ?_ | refine S13 ?_ | refine S15 ?_ | refine S16 ?_ | refine S19 ?_ | refine S20 ?_ | refine S21 ?_ | refine S22 ?_ | refine S23 ?_ | refine S25 ?_ | refine S26 ?_ | refine S29 ?_ | refine S30 ?_ | refine S35 ?_ | refine S37 ?_ | refine S38 ?_ | refine S40 ?_ | refine S41 ?_ | refine S63 ?_)
  refine Scall (args := [pint N]) kh ?_
  repeat (first | refine S0 ?_ | refine S1 ?_ | refine S2 ?_ | refine S4 ?_ | refine S5 ?_ | refine S6 ?_ | refine S7 ?_ | refine S8 ?_ | refine S9 ?_ | refine S10 ?_ | refine S11 ?_ | refine S13 ?_ | refine S15 ?_ | refine S16 ?_ | refine S19 ?_ | refine S20 ?_ | refine S21 ?_ | refine S22 ?_ | refine S23 ?_ | refine S25 ?_ | refine S26 ?_ | refine S29 ?_ | refine S30 ?_ | refine S35 ?_ | refine S37 ?_ | refine S38 ?_ | refine S40 ?_ | refine S41 ?_ | refine S63 ?_)
  refine Scall (args := [pli (rvT N)]) kw ?_
  repeat (first | refine S0 ?_ | refine S1 ?_ | refine S2 ?_ | refine S4 ?_ | refine S5 ?_ | refine S6 ?_ | refine S7 ?_ | refine S8 ?_ | refine S9 ?_ | refine S10 ?_ | refine S11 ?_ | refine S13 ?_ | refine S15 ?_ | refine S16 ?_ | refine S19 ?_ | refine S20 ?_ | refine S21 ?_ | refine S22 ?_ | refine S23 ?_ | refine S25 ?_ | refine S26 ?_ | refine S29 ?_ | refine S30 ?_ | refine S35 ?_ | refine S37 ?_ | refine S38 ?_ | refine S40 ?_ | refine S41 ?_ | refine S63 ?_)
  rw [← hd]
  refine Scallo (args := [pli d, pint q]) kr ?_
  generalize rp d q = out at *
  repeat (first | refine S0 ?_ | refine S1 ?_ | refine S2 ?_ | refine S4 ?_ | refine S5 ?_ | refine S6 ?_ | refine S7 ?_ | refine S8 ?_ | refine S9 ?_ | refine S10 ?_ | refine S11 ?_ | refine S13 ?_ | refine S15 ?_ | refine S16 ?_ | refine S19 ?_ | refine S20 ?_ | refine S21 ?_ | refine S22 ?_ | refine S23 ?_ | refine S25 ?_ | refine S26 ?_ | refine S29 ?_ | refine S30 ?_ | refine S35 ?_ | refine S37 ?_ | refine S38 ?_ | refine S40 ?_ | refine S41 ?_ | refine S63 ?_)
  refine CW.loopS (fun i : Nat × List Int × Nat => i.1 ≤ l.length ∧ i.2.1 = out ++ (l.take i.1).flatMap spell ∧ i.2.2 % 2 = 0 ∧ i.2.1.length ≤ 450 + 151 * i.1) (fun i => [(8, .ref i.2.2 0 1 i.2.1.length), (23, plls l), (24, pint l.length), (25, pint i.1)])
    (fun i hp => hp.blk i.2.2 = some (ints i.2.1)) (fun i => l.length - i.1) (0, out, H0.tok false) ⟨⟨Nat.zero_le _, by simp, HP.tok_even _, by simp only; omega⟩, SLx, HBx⟩ ?_
  rintro ⟨i, o2, to⟩ t hp ⟨hi, ho2, ht2, hol2⟩ hB
  simp only at hi ho2 ht2 hol2 hB
  first | simp only [updS] | simp only [updL, Nat.reduceAdd]
  by_cases hi2 : i < l.length
  · have kp := (spelled_o _ _ (hE i hi2) (Nat.le_refl _)).sc (by simp)
    rw [show PV.lst false 1 (spell (l.getD i [])).length (ints (spell (l.getD i []))) = pli (spell (l.getD i [])) from rfl] at kp
    have hpl := spell_len (hE i hi2)
    have hfl := fm_take hi2
    repeat (first | refine S0 ?_ | refine S1 ?_ | refine S2 ?_ | refine S4 ?_ | refine S5 ?_ | refine S6 ?_ | refine S7 ?_ | refine S8 ?_ | refine S9 ?_ | refine S10 ?_ | refine S11 ?_ | refine S13 ?_ | refine S15 ?_ | refine S16 ?_ | refine S19 ?_ | refine S20 ?_ | refine S21 ?_ | refine S22 ?_ | refine S23 ?_ | refine S25 ?_ | refine S26 ?_ | refine S29 ?_ | refine S30 ?_ | refine S35 ?_ | refine S37 ?_ | refine S38 ?_ | refine S40 ?_ | refine S41 ?_ | refine S63 ?_)
    refine Scall (args := [pli (l.getD i [])]) kp ?_
    repeat (first | refine S0 ?_ | refine S1 ?_ | refine S2 ?_ | refine S4 ?_ | refine S5 ?_ | refine S6 ?_ | refine S7 ?_ | refine S8 ?_ | refine S9 ?_ | refine S10 ?_ | refine S11 ?_ | refine S13 ?_ | refine S15 ?_ | refine S16 ?_ | refine S19 ?_ | refine S20 ?_ | refine S21 ?_ | refine S22 ?_ | refine S23 ?_ | refine S25 ?_ | refine S26 ?_ | refine S29 ?_ | refine S30 ?_ | refine S35 ?_ | refine S37 ?_ | refine S38 ?_ | refine S40 ?_ | refine S41 ?_ | refine S63 ?_)
    exact ⟨(i + 1, o2 ++ spell (l.getD i []), hp.tok false), ⟨hi2, by rw [ho2, hfl, List.append_assoc], HP.tok_even _, by simp only [List.length_append]; omega⟩, SLx, HBx, by simp only; omega⟩
  · obtain rfl : i = l.length := by omega
    rw [List.take_length] at ho2
    rw [← ho2]
    repeat (first | refine S0 ?_ | refine S1 ?_ | refine S2 ?_ | refine S4 ?_ | refine S5 ?_ | refine S6 ?_ | refine S7 ?_ | refine S8 ?_ | refine S9 ?_ | refine S10 ?_ | refine S11 ?_ | refine S13 ?_ | refine S15 ?_ | refine S16 ?_ | refine S19 ?_ | refine S20 ?_ | refine S21 ?_ | refine S22 ?_ | refine S23 ?_ | refine S25 ?_ | refine S26 ?_ | refine S29 ?_ | refine S30 ?_ | refine S35 ?_ | refine S37 ?_ | refine S38 ?_ | refine S40 ?_ | refine S41 ?_ | refine S63 ?_)
    exact ⟨.inr rfl, Fz.refI HBx (by first | (simp; done) | (simp; omega)) (by first | rfl | (simp; done))⟩
set_option maxHeartbeats 32000000 in
set_option maxRecDepth 100000 in
theorem written_neg {N q : Nat} {l : List (List Int)} (h : gF N l = 0) (hq : q ≤ 30) (hq1 : 1 ≤ q) : SC Try.prog 55 [pint N, pint (-((q : Nat) : Int)), plls l] (pli (rp (invL (twN N)) q ++ l.flatMap spell)) := by
  obtain ⟨N', hNN, hN, hl30, hE⟩ := ents_of h
  obtain rfl : N = N' := by omega
  have kh := full_s hN
  have kw := (spelled_o _ _ (rv_ent hN) (Nat.le_refl _)).sc (by simp)
  have htl := tw_len hN
  have htb := tw_bd hN
  rw [show spell (rvT N) = twN N from rfl, show PV.lst false 1 (twN N).length (ints (twN N)) = pli (twN N) from rfl] at kw
  have kv := opposite_s (w := twN N) (by omega) (fun k hk => by
    have := htb _ (show (twN N).getD k 0 ∈ twN N by rw [getD_lt 0 hk]; exact List.getElem_mem hk)
    omega)
  obtain ⟨d, hd⟩ : ∃ d, d = invL (twN N) := ⟨_, rfl⟩
  have hdl : 1 ≤ d.length ∧ d.length ≤ 15 := by rw [hd, invL_len']; exact htl
  have kr := repeat_rp (k := q) hdl hq
  have hrl : (rp d q).length ≤ 450 := by
    rw [rp_len]
    have : d.length * q ≤ 15 * 30 := Nat.mul_le_mul hdl.2 hq
    omega
  rw [← hd]
  refine SC.go {} tok mixed Try.func55 rfl rfl Try.ntmps55 rfl rfl (by kernel_rfl) ?_
  first | simp only [updS] | simp only [updL, Nat.reduceAdd]
  repeat (first | refine S0 ?_ | refine S1 ?_ | refine S2 ?_ | refine S4 ?_ | refine S5 ?_ | refine S6 ?_ | refine S7 ?_ | refine S8 ?_ | refine S9 ?_ | refine S10 ?_ | refine S11 ?_ | refine S13 ?_ | refine S15 ?_ | refine S16 ?_ | refine S19 ?_ | refine S20 ?_ | refine S21 ?_ | refine S22 ?_ | refine S23 ?_ | refine S25 ?_ | refine S26 ?_ | refine S29 ?_ | refine S30 ?_ | refine S35 ?_ | refine S37 ?_ | refine S38 ?_ | refine S40 ?_ | refine S41 ?_ | refine S63 ?_)
  refine Scall (args := [pint N]) kh ?_
  repeat (first | refine S0 ?_ | refine S1 ?_ | refine S2 ?_ | refine S4 ?_ | refine S5 ?_ | refine S6 ?_ | refine S7 ?_ | refine S8 ?_ | refine S9 ?_ | refine S10 ?_ | refine S11 ?_ | refine S13 ?_ | refine S15 ?_ | refine S16 ?_ | refine S19 ?_ | refine S20 ?_ | refine S21 ?_ | refine S22 ?_ | refine S23 ?_ | refine S25 ?_ | refine S26 ?_ | refine S29 ?_ | refine S30 ?_ | refine S35 ?_ | refine S37 ?_ | refine S38 ?_ | refine S40 ?_ | refine S41 ?_ | refine S63 ?_)
  refine Scall (args := [pli (rvT N)]) kw ?_
  repeat (first | refine S0 ?_ | refine S1 ?_ | refine S2 ?_ | refine S4 ?_ | refine S5 ?_ | refine S6 ?_ | refine S7 ?_ | refine S8 ?_ | refine S9 ?_ | refine S10 ?_ | refine S11 ?_ | refine S13 ?_ | refine S15 ?_ | refine S16 ?_ | refine S19 ?_ | refine S20 ?_ | refine S21 ?_ | refine S22 ?_ | refine S23 ?_ | refine S25 ?_ | refine S26 ?_ | refine S29 ?_ | refine S30 ?_ | refine S35 ?_ | refine S37 ?_ | refine S38 ?_ | refine S40 ?_ | refine S41 ?_ | refine S63 ?_)
  refine Scall (args := [pli (twN N)]) kv ?_
  repeat (first | refine S0 ?_ | refine S1 ?_ | refine S2 ?_ | refine S4 ?_ | refine S5 ?_ | refine S6 ?_ | refine S7 ?_ | refine S8 ?_ | refine S9 ?_ | refine S10 ?_ | refine S11 ?_ | refine S13 ?_ | refine S15 ?_ | refine S16 ?_ | refine S19 ?_ | refine S20 ?_ | refine S21 ?_ | refine S22 ?_ | refine S23 ?_ | refine S25 ?_ | refine S26 ?_ | refine S29 ?_ | refine S30 ?_ | refine S35 ?_ | refine S37 ?_ | refine S38 ?_ | refine S40 ?_ | refine S41 ?_ | refine S63 ?_)
  rw [Int.neg_neg]
  rw [← hd]
  refine Scallo (args := [pli d, pint q]) kr ?_
  generalize rp d q = out at *
  repeat (first | refine S0 ?_ | refine S1 ?_ | refine S2 ?_ | refine S4 ?_ | refine S5 ?_ | refine S6 ?_ | refine S7 ?_ | refine S8 ?_ | refine S9 ?_ | refine S10 ?_ | refine S11 ?_ | refine S13 ?_ | refine S15 ?_ | refine S16 ?_ | refine S19 ?_ | refine S20 ?_ | refine S21 ?_ | refine S22 ?_ | refine S23 ?_ | refine S25 ?_ | refine S26 ?_ | refine S29 ?_ | refine S30 ?_ | refine S35 ?_ | refine S37 ?_ | refine S38 ?_ | refine S40 ?_ | refine S41 ?_ | refine S63 ?_)
  refine CW.loopS (fun i : Nat × List Int × Nat => i.1 ≤ l.length ∧ i.2.1 = out ++ (l.take i.1).flatMap spell ∧ i.2.2 % 2 = 0 ∧ i.2.1.length ≤ 450 + 151 * i.1) (fun i => [(8, .ref i.2.2 0 1 i.2.1.length), (23, plls l), (24, pint l.length), (25, pint i.1)])
    (fun i hp => hp.blk i.2.2 = some (ints i.2.1)) (fun i => l.length - i.1) (0, out, H0.tok false) ⟨⟨Nat.zero_le _, by simp, HP.tok_even _, by simp only; omega⟩, SLx, HBx⟩ ?_
  rintro ⟨i, o2, to⟩ t hp ⟨hi, ho2, ht2, hol2⟩ hB
  simp only at hi ho2 ht2 hol2 hB
  first | simp only [updS] | simp only [updL, Nat.reduceAdd]
  by_cases hi2 : i < l.length
  · have kp := (spelled_o _ _ (hE i hi2) (Nat.le_refl _)).sc (by simp)
    rw [show PV.lst false 1 (spell (l.getD i [])).length (ints (spell (l.getD i []))) = pli (spell (l.getD i [])) from rfl] at kp
    have hpl := spell_len (hE i hi2)
    have hfl := fm_take hi2
    repeat (first | refine S0 ?_ | refine S1 ?_ | refine S2 ?_ | refine S4 ?_ | refine S5 ?_ | refine S6 ?_ | refine S7 ?_ | refine S8 ?_ | refine S9 ?_ | refine S10 ?_ | refine S11 ?_ | refine S13 ?_ | refine S15 ?_ | refine S16 ?_ | refine S19 ?_ | refine S20 ?_ | refine S21 ?_ | refine S22 ?_ | refine S23 ?_ | refine S25 ?_ | refine S26 ?_ | refine S29 ?_ | refine S30 ?_ | refine S35 ?_ | refine S37 ?_ | refine S38 ?_ | refine S40 ?_ | refine S41 ?_ | refine S63 ?_)
    refine Scall (args := [pli (l.getD i [])]) kp ?_
    repeat (first | refine S0 ?_ | refine S1 ?_ | refine S2 ?_ | refine S4 ?_ | refine S5 ?_ | refine S6 ?_ | refine S7 ?_ | refine S8 ?_ | refine S9 ?_ | refine S10 ?_ | refine S11 ?_ | refine S13 ?_ | refine S15 ?_ | refine S16 ?_ | refine S19 ?_ | refine S20 ?_ | refine S21 ?_ | refine S22 ?_ | refine S23 ?_ | refine S25 ?_ | refine S26 ?_ | refine S29 ?_ | refine S30 ?_ | refine S35 ?_ | refine S37 ?_ | refine S38 ?_ | refine S40 ?_ | refine S41 ?_ | refine S63 ?_)
    exact ⟨(i + 1, o2 ++ spell (l.getD i []), hp.tok false), ⟨hi2, by rw [ho2, hfl, List.append_assoc], HP.tok_even _, by simp only [List.length_append]; omega⟩, SLx, HBx, by simp only; omega⟩
  · obtain rfl : i = l.length := by omega
    rw [List.take_length] at ho2
    rw [← ho2]
    repeat (first | refine S0 ?_ | refine S1 ?_ | refine S2 ?_ | refine S4 ?_ | refine S5 ?_ | refine S6 ?_ | refine S7 ?_ | refine S8 ?_ | refine S9 ?_ | refine S10 ?_ | refine S11 ?_ | refine S13 ?_ | refine S15 ?_ | refine S16 ?_ | refine S19 ?_ | refine S20 ?_ | refine S21 ?_ | refine S22 ?_ | refine S23 ?_ | refine S25 ?_ | refine S26 ?_ | refine S29 ?_ | refine S30 ?_ | refine S35 ?_ | refine S37 ?_ | refine S38 ?_ | refine S40 ?_ | refine S41 ?_ | refine S63 ?_)
    exact ⟨.inr rfl, Fz.refI HBx (by first | (simp; done) | (simp; omega)) (by first | rfl | (simp; done))⟩
end Go.Proofs.Ytgjfpmjllpgadaa
