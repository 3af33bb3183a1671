/- Slices of arrays. Nothing of the program is here. -/
import Derived.Test.YthacglggkgmbhaaGGroupOrbitsAW
import Derived.Laws.Slices
import Derived.Test.YthacglggkgmbhaaGGroupOrbitsBO
import Derived.Test.YthacglggkgmbhaaGGroupOrbitsAS
import Derived.Test.YthacglggkgmbhaaGGroupOrbitsAU
set_option linter.unusedVariables false
set_option linter.unusedSimpArgs false
namespace Go.Proofs.Ythacglggkgmbhaa
open Go.RowKit

section
variable {P : Program} {T : TypeId → TI} {M : Hn} {cl : Oper → Cls} {ops : Array Oper} {l : List Oper} {t : Nat → PV} {h : HP} {K : AS → Prop} {d : Nat} {ty : TypeId} {pos : String} {aft : Array Edge}
theorem addr_add0 (b k n : Nat) : (if n = 0 then (Addr.mk b k none) else (Addr.mk b k none).add 0) = ⟨b, k, none⟩ := by
  split
  · rfl
  · simp [Addr.add]
/-- the whole of an array of one's own -/
theorem AW.slArr {tt : TypeId} {x : Operand} {len el tot tk : Nat} {zc : List Value} {cs : List PV} (h0 : cl = (fun _ => Cls.wr)) (hx : evA t x = .ptr tk 0) (ht : T tt = .ar len el 1 tot zc) (hb : h.blk tk = some cs) (hl : cs.length = len) (hp : 0 < len) (hm : len ≤ 1000000)
    (hk : AW P T M cl ops l ⟨upd t d (.ref tk 0 1 len), h⟩ K) : AW P T M cl ops (⟨some d, .slice tt x none none none, ty, pos, aft, none⟩ :: l) ⟨t, h⟩ K :=
  ⟨.inr ⟨h0, .inl rfl, (fun _ hh => by cases hh), fun hT => by
    intro w0 Z0 ρ w a Kw Q H he hK
    have e1 := he x
    have hT1 := hT tt
    rw [ht] at hT1
    obtain ⟨_, _, hA, _⟩ := hT1
    rw [hx] at e1
    obtain ⟨b, k, hev, r1⟩ := e1.ptr_inv
    rcases H.live tk cs hb with ⟨_, k1⟩ | ⟨b', o', arr, T', k1, k2, k3, k4, k5⟩
    · rw [r1] at k1; cases k1
    rw [r1] at k1; cases k1
    obtain ⟨i, g1, g2⟩ := hA.info
    have q1 : P.arrayLen tt = len := by simp [Program.arrayLen, hA.und]
    have q2 : P.elem tt = el := by simp [Program.elem, hA.und]
    have hu : P.underlying tt = some (.array (P.arrayLen tt) (P.elem tt)) := by rw [q1, q2]; exact hA.und
    have hs : (sizeOf (P.elem tt)).run P w = .ok 1 w := by rw [q2]; simp [sizeOf, typeInfo, g1, g2]
    refine wp_val (u := .slice (some ⟨b, k, none⟩) len len) (w' := w) ?_ (hK _ h _ w ρ hk.out H (.ref _ _ _ _ _ _ (Nat.le_refl _) (by unfold maxLen; omega) (fun _ => ⟨b, k, arr, T', r1, rfl, k3, by omega⟩)) (fun _ _ h => h))
    have hrun := run_sliceAt_array_all w tt ⟨b, k, none⟩ hu
    rw [hs] at hrun
    rw [Nat.add_zero] at hev
    simp only [execOp, hev, Sem.run_bind, Option.map_none, hrun, Result.andThen_ok, Sem.run_pure, slicedAt, q1, Nat.sub_zero, Nat.zero_mul, addr_add0]⟩⟩
end
end Go.Proofs.Ythacglggkgmbhaa

/- permgroup: keys of permutations. No condition of its own. -/
set_option linter.unusedVariables false
set_option linter.unusedSimpArgs false
namespace Go.Proofs.Ythacglggkgmbhaa
open Go.RowKit

/-- a permutation as a key -/
def kf (n : Nat) (F : Fn) : List Int := tabN n F ++ List.replicate (9 - n) 0
theorem kf_len {n : Nat} (hn : n ≤ 9) (F : Fn) : (kf n F).length = 9 := by simp [kf]; omega
theorem kf_inj {n : Nat} {F G : Fn} (hF : Pe n F) (hG : Pe n G) (h : kf n F = kf n G) : F = G := by
  unfold kf at h
  exact hF.tab hG (List.append_inj_left h (by simp))
set_option maxHeartbeats 4000000 in
set_option maxRecDepth 100000 in
theorem keyOf_s {n : Nat} (hn : n ≤ 9) (F : Fn) : SC Try.prog 43 [pli (tabN n F)] (.agg (ints (kf n F))) := by
  have hl := kf_len hn F
  refine SC.go {} tok mixed Try.func43 rfl rfl Try.ntmps43 rfl rfl (by kernel_rfl) ?_
  first | simp only [updS] | simp only [updL, Nat.reduceAdd]
  repeat (first | refine S0 ?_ | refine S1 ?_ | refine S2 ?_ | refine S7 ?_ | refine S8 ?_ | refine S19 ?_ | refine S48 ?_ | refine S68 ?_)
  refine AW.slArr (tk := 3) (len := 9) rfl EVx rfl HBx rfl (by omega) (by omega) ?_
  repeat (first | refine S0 ?_ | refine S1 ?_ | refine S2 ?_ | refine S7 ?_ | refine S8 ?_ | refine S19 ?_ | refine S48 ?_ | refine S68 ?_)
  have hr0 : ((List.replicate 9 (PV.sc (.int .i64 0))).take 0) ++ (ints (tabN n F)).take (min 9 n) ++ (List.replicate 9 (PV.sc (.int .i64 0))).drop (0 + min 9 n) = ints (kf n F) := by
    have : min 9 n = n := by omega
    rw [this]
    unfold kf ints
    simp only [List.take_zero, List.nil_append, Nat.zero_add, List.drop_replicate, List.map_append, List.map_replicate]
    rw [List.take_of_length_le (by simp)]
  refine AW.cpy (m := 9) (m2 := n) (tk := 3) (off := 0) (r := ints (kf n F)) (cs2 := (ints (tabN n F)).take (min 9 n * 1)) EVx (.inl rfl) rfl HBx (by simp only [evA, upd, putA, Nat.reduceEqDiff, ↓reduceIte, pli, lenA, tab_len]) (by first | exact ⟨rfl, rfl, .inr rfl⟩ | exact ⟨rfl, rfl, .inl rfl⟩ | (simp only [evA, upd, putA, Nat.reduceEqDiff, ↓reduceIte]; first | exact ⟨rfl, rfl, .inr rfl⟩ | exact ⟨rfl, rfl, .inl rfl⟩)) (by simp) (fun p hp => ints_ones _ p (List.mem_of_mem_take hp)) (by rw [Nat.mul_one]; exact hr0) ?_
  have hil : (ints (kf n F)).length = 9 := by rw [ints_length, hl]
  iterate 5 (first | refine S0 ?_ | refine S1 ?_ | refine S2 ?_ | refine S7 ?_ | refine S8 ?_ | refine S19 ?_ | refine S48 ?_ | refine S68 ?_)
  rw [show List.take 9 (ints (kf n F)) = ints (kf n F) by rw [List.take_of_length_le (by omega)]]
  refine AW.staR (r := ints (kf n F)) EVx (by first | exact Or.inl rfl | exact Or.inr ⟨rfl, HP.tok_even _⟩ | exact Or.inr (Or.inl ⟨rfl, HP.tok_even _⟩) | exact Or.inr (Or.inr ⟨rfl, HP.tok_odd _⟩) | exact Or.inr (Or.inl rfl) | exact Or.inr (Or.inr (Or.inl rfl)) | exact Or.inr (Or.inr (Or.inr (Or.inl ⟨rfl, HP.tok_odd _⟩))) | exact Or.inr (Or.inr (Or.inr (Or.inr ⟨rfl, HP.tok_even _⟩))) | exact Or.inr (Or.inr (Or.inr (Or.inr ⟨rfl, by assumption⟩))) | exact Or.inr ⟨rfl, by assumption⟩ | exact Or.inr (Or.inl ⟨rfl, by assumption⟩) | exact Or.inr (Or.inr ⟨rfl, by assumption⟩) | exact Or.inr (Or.inr (Or.inr (Or.inl ⟨rfl, by assumption⟩))) | exact Or.inr (Or.inr (Or.inl ⟨rfl, HP.tok_odd _⟩)) | exact Or.inr (Or.inr (Or.inl ⟨rfl, by assumption⟩)) | exact Or.inr (Or.inr (Or.inr rfl)) | exact Or.inr (Or.inr rfl) | exact Or.inr rfl) EVx rfl HBx hil (by decide) (fun p hp => ints_ones _ p hp) (by simp [hil]) ?_
  repeat (first | refine S0 ?_ | refine S1 ?_ | refine S2 ?_ | refine S7 ?_ | refine S8 ?_ | refine S19 ?_ | refine S48 ?_ | refine S68 ?_)
  exact ⟨.inr rfl, FR.cell1 rfl HBx rfl hil (.cl (by simp only [PV.cl, ints_cl]))⟩
end Go.Proofs.Ythacglggkgmbhaa

/- slices.Reverse at a slice of the caller's own. No condition of its own. -/
set_option linter.unusedVariables false
set_option linter.unusedSimpArgs false
namespace Go.Proofs.Ythacglggkgmbhaa
open Go.RowKit

set_option maxHeartbeats 4000000 in
set_option maxRecDepth 100000 in
theorem reverse_e {xs : List Int} {tk : Nat} {h : HP} (hx : xs.length ≤ 1000000) (hb : h.blk tk = some (ints xs)) :
    SChE Try.prog 45 [.ref tk 0 1 xs.length] h (fun _ h' => h'.blk tk = some (ints xs.reverse) ∧ Fr [tk] h h') := by
  refine SChE.go {} tok mixed Try.func45 rfl rfl Try.ntmps45 rfl rfl (by kernel_rfl) (fun hw => ?_)
  first | simp only [updS] | simp only [updL, Nat.reduceAdd]
  have htk := hw.lt hb
  repeat (first | refine S0 ?_ | refine S1 ?_ | refine S2 ?_ | refine S3 ?_ | refine S4 ?_ | refine S5 ?_ | refine S6 ?_ | refine S8 ?_ | refine S10 ?_ | refine S11 ?_ | refine S13 ?_ | refine S15 ?_ | refine S16 ?_ | refine S19 ?_ | refine S20 ?_ | refine S21 ?_ | refine S22 ?_ | refine S24 ?_ | refine S27 ?_ | refine S33 ?_ | refine S46 ?_ | refine S65 ?_)
  refine CW.loopS (fun i : Nat × List Int => i.1 ≤ xs.length ∧ i.2.length = xs.length ∧ 2 * (i.1 : Int) ≤ xs.length + 1 ∧ ∀ q, q < xs.length → i.2.getD q 0 = if q < i.1 ∨ xs.length < q + 1 + i.1 then xs.getD (xs.length - 1 - q) 0 else xs.getD q 0)
    (fun i => [(0, .ref tk 0 1 xs.length), (2, pint i.1), (3, pint ((xs.length : Int) - 1 - i.1))]) (fun i hp => hp.blk tk = some (ints i.2) ∧ Fr [tk] h hp) (fun i => xs.length - i.1) (0, xs)
    ⟨⟨Nat.zero_le _, rfl, by simp only; omega, fun q hq => by rw [if_neg (by simp only; omega)]⟩, by simp only [Int.natCast_zero, Int.sub_zero]; exact SLx, HBx, Fr.refl _ _⟩ ?_
  rintro ⟨i, zs⟩ t hp ⟨h1, h2, h2b, h3⟩ ⟨hB, hFr⟩
  simp only at h1 h2 h2b h3 hB
  first | simp only [updS] | simp only [updL, Nat.reduceAdd]
  by_cases hlt : (i : Int) < (xs.length : Int) - 1 - i
  · obtain ⟨j, hj⟩ : ∃ j : Nat, (xs.length : Int) - 1 - i = j := ⟨xs.length - 1 - i, by omega⟩
    rw [hj] at hlt ⊢
    repeat (first | refine S0 ?_ | refine S1 ?_ | refine S2 ?_ | refine S3 ?_ | refine S4 ?_ | refine S5 ?_ | refine S6 ?_ | refine S8 ?_ | refine S10 ?_ | refine S11 ?_ | refine S13 ?_ | refine S15 ?_ | refine S16 ?_ | refine S19 ?_ | refine S20 ?_ | refine S21 ?_ | refine S22 ?_ | refine S24 ?_ | refine S27 ?_ | refine S33 ?_ | refine S46 ?_ | refine S65 ?_)
    refine ⟨(i + 1, (zs.set i (zs.getD j 0)).set j (zs.getD i 0)), ⟨by simp only; omega, by simp [h2], by simp only; omega, fun q hq => ?_⟩, ?_, ⟨?_, ?_⟩, by simp only; omega⟩
    · simp only
      have e1 := h3 i (by omega)
      have e2 := h3 j (by omega)
      rw [if_neg (by omega)] at e1 e2
      by_cases q1 : q = j
      · subst q1
        rw [if_pos (by omega), getD_lt 0 (by simp; omega)]
        simp only [List.getElem_set_self]
        rw [e1, show xs.length - 1 - q = i by omega]
      · by_cases q2 : q = i
        · subst q2
          rw [if_pos (by omega), getD_lt 0 (by simp; omega), List.getElem_set_ne (by omega)]
          simp only [List.getElem_set_self]
          rw [e2, show xs.length - 1 - q = j by omega]
        · rw [getD_lt 0 (by simp; omega), List.getElem_set_ne (by omega), List.getElem_set_ne (by omega), ← getD_lt 0 (by omega), h3 q hq]
          by_cases c : q < i ∨ xs.length < q + 1 + i
          · rw [if_pos c, if_pos (by omega)]
          · rw [if_neg c, if_neg (by omega)]
    · simp only
      rw [show (xs.length : Int) - 1 - ((i + 1 : Nat) : Int) = (j : Int) - 1 by omega]
      exact SLx
    · exact HBx
    · exact (hFr.set _ (.inl (by simp))).set _ (.inl (by simp))
  · have hz : zs = xs.reverse := by
      apply List.ext_getElem
      · simp [h2]
      · intro q g1 g2
        have := h3 q (by omega)
        rw [getD_lt 0 g1] at this
        rw [this, List.getElem_reverse]
        split
        · rw [getD_lt 0 (by omega)]
        · rw [getD_lt 0 (by omega)]
          congr 1; omega
    subst hz
    repeat (first | refine S0 ?_ | refine S1 ?_ | refine S2 ?_ | refine S3 ?_ | refine S4 ?_ | refine S5 ?_ | refine S6 ?_ | refine S8 ?_ | refine S10 ?_ | refine S11 ?_ | refine S13 ?_ | refine S15 ?_ | refine S16 ?_ | refine S19 ?_ | refine S20 ?_ | refine S21 ?_ | refine S22 ?_ | refine S24 ?_ | refine S27 ?_ | refine S33 ?_ | refine S46 ?_ | refine S65 ?_)
    exact ⟨.inl rfl, _, rfl, hB, hFr⟩
end Go.Proofs.Ythacglggkgmbhaa
