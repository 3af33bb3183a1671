/- Words: Reduce, Product, Inverse by lists. No condition of its own. -/
import Derived.Test.YtgjfpmjllpgadaaGTopPermutationBraidsBH
import Derived.Test.YtgjfpmjllpgadaaGTopPermutationBraidsBI
set_option linter.unusedVariables false
set_option linter.unusedSimpArgs false
namespace Go.Proofs.Ytgjfpmjllpgadaa
open Go.RowKit

theorem inverted_s {zs : List Int} (hbd : ∀ x ∈ zs, -9223372036854775807 ≤ x ∧ x ≤ 9223372036854775807) (hlen : zs.length ≤ 1000000) : SC Try.prog 70 [pli zs] (.lst true 1 (invL zs).length (ints (invL zs))) := by
  refine ⟨callable Try.func70 rfl rfl, fun Z w vs hz hl hv => ?_⟩
  obtain ⟨A, cap, e0, hI⟩ := V.isInts (hv 0 (by simp)) (fun x hx => by have := hbd x hx; unfold in64; omega)
  obtain rfl : vs = [Value.slice A zs.length cap].toArray := vs_of (by simpa using hl) (fun i hi => by
    match i, hi with
    | 0, _ => simpa using e0
    | i + 1, h => simp at h)
  have := (callsIn_wide (n := 9)).1 (inverted_in A cap zs w hbd hlen (HInts.of hI))
  rw [negs_inv hbd] at this
  refine this.mono ?_
  rintro e w' ⟨A2, cp, rfl, hrow, hb⟩
  have hil : (invL zs).length = zs.length := by simp [invL]
  refine ⟨_, rfl, ?_, hb⟩
  rcases hrow.2 with ⟨h1, h0⟩ | ⟨g, cp2, cur, h1, h2, h3, h4, h5, h6, h7⟩
  · have : invL zs = [] := List.length_eq_zero_iff.1 h0
    rw [this]
    exact .lst _ _ _ 0 _ _ (fun _ => undef) (Nat.le_refl _) (fun _ => rfl) (Nat.zero_le _) rfl (fun hne => absurd rfl hne) (fun i hi => by simp [ints] at hi)
  · cases h1
    have hcs : (invL zs).length ≤ cur.size := by omega
    refine .lst _ _ _ _ _ _ (fun i => cur.getD (0 + i) undef) (Nat.le_refl _) (fun _ => rfl) (by unfold maxLen; omega) (by simp) (fun _ => ⟨g, 0, rfl, fun hh => by have := hz g hh; omega, lt_of_heap h3, fun i hi => cell_live h3 (by simp at hi; omega)⟩) (fun i hi => ?_)
    have hi' : i < (invL zs).length := by simpa using hi
    rw [getD_of (ints_at hi')]
    have h8 : cur.getD (0 + i) undef = .int .i64 ((invL zs).getD i 0) := by
      have h9 := congrArg (fun l => l[i]?) h7
      simp only [Nat.mul_one, List.getElem?_take, hi', if_true, List.getElem?_map, List.getElem?_eq_getElem hi', Option.map_some] at h9
      rw [getD_lt 0 hi', Nat.zero_add]
      simp [Array.getD, show i < cur.size by omega] at h9 ⊢
      exact h9
    rw [h8]; exact .sc _
/-- out[n-1-j] = F j for all j below k, the rest 0 -/
def fillR (n k : Nat) (F : Nat → Int) : List Int := (List.range n).map fun i => if n ≤ i + k then F (n - 1 - i) else 0
def bothF (a b : List Int) : Int := if fF a ≠ 0 then fF a else fF b
def prodF (a b : List Int) : Int := if bothF a b ≠ 0 then bothF a b else if 60 < (red (a ++ b)).length then 2 else 0
def prodL (a b : List Int) : List Int := if prodF a b = 0 then red (a ++ b) else []
end Go.Proofs.Ytgjfpmjllpgadaa

/- garside.Word, the reference's Written; the law GarsideWords holds for all numbers and lists. No condition of its own. -/
set_option linter.unusedVariables false
set_option linter.unusedSimpArgs false
namespace Go.Proofs.Ytgjfpmjllpgadaa
open Go.RowKit

def twN (N : Nat) : List Int := spell (rvT N)
theorem tw_len {N : Nat} (h : 2 ≤ N ∧ N ≤ 6) : 1 ≤ (twN N).length ∧ (twN N).length ≤ 15 := by
  rcases le6 h with rfl | rfl | rfl | rfl | rfl <;> decide +kernel
theorem rv_ent {N : Nat} (h : 2 ≤ N ∧ N ≤ 6) : Ent (rvT N) := by
  rcases le6 h with rfl | rfl | rfl | rfl | rfl <;> exact ⟨by decide, by decide⟩
theorem tw_bd {N : Nat} (h : 2 ≤ N ∧ N ≤ 6) : ∀ x ∈ twN N, 1 ≤ x ∧ x ≤ 5 := spell_mem (rv_ent h)
def twS (N : Nat) (power : Int) : List Int := if power < 0 then invL (twN N) else twN N
def wrt (N : Nat) (power : Int) (l : List (List Int)) : List Int := rp (twS N power) power.natAbs ++ l.flatMap spell
theorem fm_take {l : List (List Int)} {i : Nat} (h : i < l.length) : (l.take (i + 1)).flatMap spell = (l.take i).flatMap spell ++ spell (l.getD i []) := by
  rw [List.take_add_one, List.getElem?_eq_getElem h, List.flatMap_append]
  simp [List.getD, h]
theorem ent_of {N : Nat} (h : 2 ≤ N ∧ N ≤ 6) {p : List Int} (hf : permFault p = 0) (hl : p.length = N) : Ent p := by
  obtain ⟨_, hr, _⟩ := permFault_range hf
  refine ⟨by omega, fun x hx => ?_⟩
  obtain ⟨i, hi, rfl⟩ := List.getElem_of_mem hx
  have := hr i hi
  rw [getD_lt 0 hi] at this
  omega
theorem ents_of {n : Int} {l : List (List Int)} (h : gF n l = 0) : ∃ N : Nat, n = (N : Int) ∧ (2 ≤ N ∧ N ≤ 6) ∧ l.length ≤ 30 ∧ ∀ i, i < l.length → Ent (l.getD i []) := by
  unfold gF at h
  split at h
  · cases h
  · rename_i hn
    split at h
    · cases h
    · rename_i hl
      refine ⟨n.toNat, by omega, by omega, by omega, fun i hi => ?_⟩
      have hg := gFrom_all _ _ h i (Nat.zero_le _) (by omega)
      obtain ⟨q1, q2⟩ := gAt_ok hg
      exact ent_of (N := n.toNat) (by omega) q1 q2
def gwF (n power : Int) (l : List (List Int)) : Int := if gF n l ≠ 0 then gF n l else if power < -30 ∨ 30 < power then 2 else if 30 < (wrt n.toNat power l).length then 2 else 0
def gwL (n power : Int) (l : List (List Int)) : List Int := if gwF n power l = 0 then wrt n.toNat power l else []
set_option maxHeartbeats 32000000 in
set_option maxRecDepth 100000 in
theorem gWord_pos {N q : Nat} {l : List (List Int)} (hb : ∀ r ∈ l, ∀ x ∈ r, in64 x) (h : gF N l = 0) (hq : q ≤ 30) : SC Try.prog 56 [pint N, pint ((q : Nat) : Int), plls l] (.tup [pli (if 30 < (rp (twN N) q ++ l.flatMap spell).length then [] else rp (twN N) q ++ l.flatMap spell), pint (if 30 < (rp (twN N) q ++ l.flatMap spell).length then 2 else 0)]) := by
  have kc := gcheck_s N hb
  rw [h] at kc
  obtain ⟨N', hNN, hN, hl30, hE⟩ := ents_of h
  obtain rfl : N = N' := by omega
  have kh := half_s hN
  have kw := gword_s (rv_ent hN)
  have htl := tw_len hN
  have htb := tw_bd hN
  rw [show spell (rvT N) = twN N from rfl] at kw
  obtain ⟨d, hd⟩ : ∃ d, d = twN N := ⟨_, rfl⟩
  have hdl : 1 ≤ d.length ∧ d.length ≤ 15 := by rw [hd]; exact htl
  rw [← hd]
  refine SC.go {} tok mixed Try.func56 rfl rfl Try.ntmps56 rfl rfl (by kernel_rfl) ?_
  first | simp only [updS] | simp only [updL, Nat.reduceAdd]
  repeat (first | refine S0 ?_ | refine S1 ?_ | refine S2 ?_ | refine S4 ?_ | refine S5 ?_ | refine S6 ?_ | refine S7 ?_ | refine S8 ?_ | refine S9 ?_ | refine S10 ?_ | refine S11 ?_ | refine S13 ?_ | refine S15 ?_ | refine S16 ?_ | refine S19 ?_ | refine S20 ?_ | refine S21 ?_ | refine S22 ?_ | refine S23 ?_ | refine S25 ?_ | refine S26 ?_ | refine S29 ?_ | refine S30 ?_ | refine S35 ?_ | refine S37 ?_ | refine S38 ?_ | refine S40 ?_ | refine S41 ?_ | refine S63 ?_)
  refine Scall (args := [pint N, plls l]) kc ?_
  repeat (first | refine S0 ?_ | refine S1 ?_ | refine S2 ?_ | refine S4 ?_ | refine S5 ?_ | refine S6 ?_ | refine S7 ?_ | refine S8 ?_ | refine S9 ?_ | refine S10 ?_ | refine S11 ?_ | refine S13 ?_ | refine S15 ?_ | refine S16 ?_ | refine S19 ?_ | refine S20 ?_ | refine S21 ?_ | refine S22 ?_ | refine S23 ?_ | refine S25 ?_ | refine S26 ?_ | refine S29 ?_ | refine S30 ?_ | refine S35 ?_ | refine S37 ?_ | refine S38 ?_ | refine S40 ?_ | refine S41 ?_ | refine S63 ?_)
  refine Scall (args := [pint N]) kh ?_
  repeat (first | refine S0 ?_ | refine S1 ?_ | refine S2 ?_ | refine S4 ?_ | refine S5 ?_ | refine S6 ?_ | refine S7 ?_ | refine S8 ?_ | refine S9 ?_ | refine S10 ?_ | refine S11 ?_ | refine S13 ?_ | refine S15 ?_ | refine S16 ?_ | refine S19 ?_ | refine S20 ?_ | refine S21 ?_ | refine S22 ?_ | refine S23 ?_ | refine S25 ?_ | refine S26 ?_ | refine S29 ?_ | refine S30 ?_ | refine S35 ?_ | refine S37 ?_ | refine S38 ?_ | refine S40 ?_ | refine S41 ?_ | refine S63 ?_)
  refine Scall (args := [pli (rvT N)]) kw ?_
  repeat (first | refine S0 ?_ | refine S1 ?_ | refine S2 ?_ | refine S4 ?_ | refine S5 ?_ | refine S6 ?_ | refine S7 ?_ | refine S8 ?_ | refine S9 ?_ | refine S10 ?_ | refine S11 ?_ | refine S13 ?_ | refine S15 ?_ | refine S16 ?_ | refine S19 ?_ | refine S20 ?_ | refine S21 ?_ | refine S22 ?_ | refine S23 ?_ | refine S25 ?_ | refine S26 ?_ | refine S29 ?_ | refine S30 ?_ | refine S35 ?_ | refine S37 ?_ | refine S38 ?_ | refine S40 ?_ | refine S41 ?_ | refine S63 ?_)
  rw [← hd]
  refine CW.own 10 1 rfl ?_
  refine CW.loopS (fun i : Nat × List Int × Nat => i.1 ≤ q ∧ i.2.1 = rp d i.1 ∧ i.2.2 % 2 = 0) (fun i => [(2, plls l), (9, pli d), (10, .ref i.2.2 0 1 i.2.1.length), (34, pint q), (35, pint i.1)])
    (fun i hp => hp.blk i.2.2 = some (ints i.2.1)) (fun i => q - i.1) (0, [], 0) ⟨⟨Nat.zero_le _, rfl, by simp only⟩, SLx, HBx⟩ ?_
  rintro ⟨k, out, to⟩ t hp ⟨hk, hout, ht2⟩ hB
  simp only at hk hout ht2 hB
  first | simp only [updS] | simp only [updL, Nat.reduceAdd]
  have hol : out.length ≤ 450 := by
    rw [hout, rp_len]
    have : d.length * k ≤ 15 * 30 := Nat.mul_le_mul hdl.2 (by omega)
    omega
  by_cases hk2 : k < q
  · repeat (first | refine S0 ?_ | refine S1 ?_ | refine S2 ?_ | refine S4 ?_ | refine S5 ?_ | refine S6 ?_ | refine S7 ?_ | refine S8 ?_ | refine S9 ?_ | refine S10 ?_ | refine S11 ?_ | refine S13 ?_ | refine S15 ?_ | refine S16 ?_ | refine S19 ?_ | refine S20 ?_ | refine S21 ?_ | refine S22 ?_ | refine S23 ?_ | refine S25 ?_ | refine S26 ?_ | refine S29 ?_ | refine S30 ?_ | refine S35 ?_ | refine S37 ?_ | refine S38 ?_ | refine S40 ?_ | refine S41 ?_ | refine S63 ?_)
    exact ⟨(k + 1, out ++ d, hp.tok false), ⟨hk2, by rw [hout]; rfl, HP.tok_even _⟩, SLx, HBx, by simp only; omega⟩
  · obtain rfl : k = q := by omega
    obtain ⟨base, hbase⟩ : ∃ base, base = rp d k := ⟨_, rfl⟩
    rw [← hbase] at hout ⊢
    subst hout
    repeat (first | refine S0 ?_ | refine S1 ?_ | refine S2 ?_ | refine S4 ?_ | refine S5 ?_ | refine S6 ?_ | refine S7 ?_ | refine S8 ?_ | refine S9 ?_ | refine S10 ?_ | refine S11 ?_ | refine S13 ?_ | refine S15 ?_ | refine S16 ?_ | refine S19 ?_ | refine S20 ?_ | refine S21 ?_ | refine S22 ?_ | refine S23 ?_ | refine S25 ?_ | refine S26 ?_ | refine S29 ?_ | refine S30 ?_ | refine S35 ?_ | refine S37 ?_ | refine S38 ?_ | refine S40 ?_ | refine S41 ?_ | refine S63 ?_)
    refine CW.loopS (fun i : Nat × List Int × Nat => i.1 ≤ l.length ∧ i.2.1 = out ++ (l.take i.1).flatMap spell ∧ i.2.2 % 2 = 0 ∧ i.2.1.length ≤ 450 + 151 * i.1) (fun i => [(10, .ref i.2.2 0 1 i.2.1.length), (41, plls l), (42, pint l.length), (43, pint i.1)])
      (fun i hp => hp.blk i.2.2 = some (ints i.2.1)) (fun i => l.length - i.1) (0, out, to) ⟨⟨Nat.zero_le _, by simp, ht2, by simp only; omega⟩, SLx, hB⟩ ?_
    clear hB ht2 hp t
    rintro ⟨i, o2, to⟩ t hp ⟨hi, ho2, ht2, hol2⟩ hB
    simp only at hi ho2 ht2 hol2 hB
    first | simp only [updS] | simp only [updL, Nat.reduceAdd]
    by_cases hi2 : i < l.length
    · have kp := gword_s (hE i hi2)
      have hpl := spell_len (hE i hi2)
      have hfl := fm_take hi2
      repeat (first | refine S0 ?_ | refine S1 ?_ | refine S2 ?_ | refine S4 ?_ | refine S5 ?_ | refine S6 ?_ | refine S7 ?_ | refine S8 ?_ | refine S9 ?_ | refine S10 ?_ | refine S11 ?_ | refine S13 ?_ | refine S15 ?_ | refine S16 ?_ | refine S19 ?_ | refine S20 ?_ | refine S21 ?_ | refine S22 ?_ | refine S23 ?_ | refine S25 ?_ | refine S26 ?_ | refine S29 ?_ | refine S30 ?_ | refine S35 ?_ | refine S37 ?_ | refine S38 ?_ | refine S40 ?_ | refine S41 ?_ | refine S63 ?_)
      refine Scall (args := [pli (l.getD i [])]) kp ?_
      repeat (first | refine S0 ?_ | refine S1 ?_ | refine S2 ?_ | refine S4 ?_ | refine S5 ?_ | refine S6 ?_ | refine S7 ?_ | refine S8 ?_ | refine S9 ?_ | refine S10 ?_ | refine S11 ?_ | refine S13 ?_ | refine S15 ?_ | refine S16 ?_ | refine S19 ?_ | refine S20 ?_ | refine S21 ?_ | refine S22 ?_ | refine S23 ?_ | refine S25 ?_ | refine S26 ?_ | refine S29 ?_ | refine S30 ?_ | refine S35 ?_ | refine S37 ?_ | refine S38 ?_ | refine S40 ?_ | refine S41 ?_ | refine S63 ?_)
      exact ⟨(i + 1, o2 ++ spell (l.getD i []), hp.tok false), ⟨hi2, by rw [ho2, hfl, List.append_assoc], HP.tok_even _, by simp only [List.length_append]; omega⟩, SLx, HBx, by simp only; omega⟩
    · obtain rfl : i = l.length := by omega
      rw [List.take_length] at ho2
      rw [← ho2]
      refine CW.freezeI 10 (xs := o2) rfl hB ?_
      by_cases hbig : 30 < o2.length
      · rw [if_pos hbig, if_pos hbig]
        repeat (first | refine S0 ?_ | refine S1 ?_ | refine S2 ?_ | refine S4 ?_ | refine S5 ?_ | refine S6 ?_ | refine S7 ?_ | refine S8 ?_ | refine S9 ?_ | refine S10 ?_ | refine S11 ?_ | refine S13 ?_ | refine S15 ?_ | refine S16 ?_ | refine S19 ?_ | refine S20 ?_ | refine S21 ?_ | refine S22 ?_ | refine S23 ?_ | refine S25 ?_ | refine S26 ?_ | refine S29 ?_ | refine S30 ?_ | refine S35 ?_ | refine S37 ?_ | refine S38 ?_ | refine S40 ?_ | refine S41 ?_ | refine S63 ?_)
        exact ⟨.inr rfl, Fz.pair Fz.nil (.cl rfl)⟩
      · rw [if_neg hbig, if_neg hbig]
        repeat (first | refine S0 ?_ | refine S1 ?_ | refine S2 ?_ | refine S4 ?_ | refine S5 ?_ | refine S6 ?_ | refine S7 ?_ | refine S8 ?_ | refine S9 ?_ | refine S10 ?_ | refine S11 ?_ | refine S13 ?_ | refine S15 ?_ | refine S16 ?_ | refine S19 ?_ | refine S20 ?_ | refine S21 ?_ | refine S22 ?_ | refine S23 ?_ | refine S25 ?_ | refine S26 ?_ | refine S29 ?_ | refine S30 ?_ | refine S35 ?_ | refine S37 ?_ | refine S38 ?_ | refine S40 ?_ | refine S41 ?_ | refine S63 ?_)
        refine Scall (args := [pli o2]) (clip_s o2) ?_
        repeat (first | refine S0 ?_ | refine S1 ?_ | refine S2 ?_ | refine S4 ?_ | refine S5 ?_ | refine S6 ?_ | refine S7 ?_ | refine S8 ?_ | refine S9 ?_ | refine S10 ?_ | refine S11 ?_ | refine S13 ?_ | refine S15 ?_ | refine S16 ?_ | refine S19 ?_ | refine S20 ?_ | refine S21 ?_ | refine S22 ?_ | refine S23 ?_ | refine S25 ?_ | refine S26 ?_ | refine S29 ?_ | refine S30 ?_ | refine S35 ?_ | refine S37 ?_ | refine S38 ?_ | refine S40 ?_ | refine S41 ?_ | refine S63 ?_)
        exact ⟨.inr rfl, Fz.pair (.nrm (plt_cl o2)) (.cl rfl)⟩
end Go.Proofs.Ytgjfpmjllpgadaa
