/- slices.Reverse at a slice of the caller's own. No condition of its own. -/
import Derived.Test.YtehilackpaejnaaAbsU
import Derived.Test.YtehilackpaejnaaAbsLib
set_option linter.unusedVariables false
set_option linter.unusedSimpArgs false
namespace Go.Proofs.Ytehilackpaejnaa
open Go.RowKit

theorem ints_set_get {zs : List Int} {i : Nat} {x : Int} : (ints zs).set i (.sc (.int .i64 x)) = ints (zs.set i x) := ints_set zs i x
set_option maxHeartbeats 4000000 in
set_option maxRecDepth 100000 in
theorem reverse_e {xs : List Int} {tk : Nat} {h : HP} (hx : xs.length ≤ 1000000) (hb : h.blk tk = some (ints xs)) :
    SChE Try.prog 48 [.ref tk 0 1 xs.length] h (fun _ h' => h'.blk tk = some (ints xs.reverse) ∧ Fr [tk] h h') := by
  refine SChE.go {} tok mixed Try.func48 rfl rfl Try.ntmps48 rfl rfl (by kernel_rfl) (fun hw => ?_)
  first | simp only [updS] | simp only [updL, Nat.reduceAdd]
  have htk := hw.lt hb
  repeat (first | refine S0 ?_ | refine S1 ?_ | refine S2 ?_ | refine S3 ?_ | refine S4 ?_ | refine S5 ?_ | refine S6 ?_ | refine S7 ?_ | refine S8 ?_ | refine S9 ?_ | refine S10 ?_ | refine S11 ?_ | refine S12 ?_ | refine S13 ?_ | refine S14 ?_ | refine S15 ?_ | refine S16 ?_ | refine S17 ?_ ?_ | refine S18 ?_ | refine S19 ?_ | refine S20 ?_ | refine S21 ?_ | refine S22 ?_ | refine S23 ?_ | refine S24 ?_ | refine S25 ?_ | refine S26 ?_ | refine S27 ?_ | refine S28 ?_ | refine S29 ?_ | refine S30 ?_ | refine S31 ?_ | refine S32 ?_ | refine S33 ?_ | refine S34 ?_ | refine S35 ?_ | refine S36 ?_ | refine S37 ?_ | refine S38 ?_ | refine S39 ?_ | refine S40 ?_ | refine S41 ?_ | refine S42 ?_ | refine S43 ?_ | refine S44 ?_ | refine S45 ?_ | refine S46 ?_ | refine S47 ?_ | refine S48 ?_ | refine S49 ?_ | refine S50 ?_ | refine S51 ?_ | refine S52 ?_ | refine S53 ?_ | refine S54 ?_ | refine S55 ?_ | refine S56 ?_ | refine S57 ?_ | refine S58 ?_ | refine S59 ?_ | refine S60 ?_ | refine S61 ?_ | refine S62 ?_ | refine S63 ?_ | refine S64 ?_ | refine S65 ?_ | refine S66 ?_ | refine S67 ?_ | refine S68 ?_ | refine S69 ?_ | refine S70 ?_ | refine S71 ?_ | refine S72 ?_ | refine S73 ?_ | refine S74 ?_ | refine S75 ?_ | refine S76 ?_ | refine S77 ?_ | refine S78 ?_ | refine S79 ?_ | refine S80 ?_ | refine S81 ?_ | refine S82 ?_ | refine S83 ?_ | refine S84 ?_ | refine S85 ?_ | refine S86 ?_)
  refine CW.loopS (fun i : Nat × List Int => i.1 ≤ xs.length ∧ i.2.length = xs.length ∧ 2 * (i.1 : Int) ≤ xs.length + 1 ∧ ∀ q, q < xs.length → i.2.getD q 0 = if q < i.1 ∨ xs.length < q + 1 + i.1 then xs.getD (xs.length - 1 - q) 0 else xs.getD q 0)
    (fun i => [(0, .ref tk 0 1 xs.length), (2, pint i.1), (3, pint ((xs.length : Int) - 1 - i.1))]) (fun i hp => hp.blk tk = some (ints i.2) ∧ Fr [tk] h hp) (fun i => xs.length - i.1) (0, xs)
    ⟨⟨Nat.zero_le _, rfl, by simp only; omega, fun q hq => by rw [if_neg (by simp only; omega)]⟩, by simp only [Int.natCast_zero, Int.sub_zero]; exact SLx, HBx, Fr.refl _ _⟩ ?_
  rintro ⟨i, zs⟩ t hp ⟨h1, h2, h2b, h3⟩ ⟨hB, hFr⟩
  simp only at h1 h2 h2b h3 hB
  first | simp only [updS] | simp only [updL, Nat.reduceAdd]
  by_cases hlt : (i : Int) < (xs.length : Int) - 1 - i
  · obtain ⟨j, hj⟩ : ∃ j : Nat, (xs.length : Int) - 1 - i = j := ⟨xs.length - 1 - i, by omega⟩
    rw [hj] at hlt ⊢
    repeat (first | refine S0 ?_ | refine S1 ?_ | refine S2 ?_ | refine S3 ?_ | refine S4 ?_ | refine S5 ?_ | refine S6 ?_ | refine S7 ?_ | refine S8 ?_ | refine S9 ?_ | refine S10 ?_ | refine S11 ?_ | refine S12 ?_ | refine S13 ?_ | refine S14 ?_ | refine S15 ?_ | refine S16 ?_ | refine S17 ?_ ?_ | refine S18 ?_ | refine S19 ?_ | refine S20 ?_ | refine S21 ?_ | refine S22 ?_ | refine S23 ?_ | refine S24 ?_ | refine S25 ?_ | refine S26 ?_ | refine S27 ?_ | refine S28 ?_ | refine S29 ?_ | refine S30 ?_ | refine S31 ?_ | refine S32 ?_ | refine S33 ?_ | refine S34 ?_ | refine S35 ?_ | refine S36 ?_ | refine S37 ?_ | refine S38 ?_ | refine S39 ?_ | refine S40 ?_ | refine S41 ?_ | refine S42 ?_ | refine S43 ?_ | refine S44 ?_ | refine S45 ?_ | refine S46 ?_ | refine S47 ?_ | refine S48 ?_ | refine S49 ?_ | refine S50 ?_ | refine S51 ?_ | refine S52 ?_ | refine S53 ?_ | refine S54 ?_ | refine S55 ?_ | refine S56 ?_ | refine S57 ?_ | refine S58 ?_ | refine S59 ?_ | refine S60 ?_ | refine S61 ?_ | refine S62 ?_ | refine S63 ?_ | refine S64 ?_ | refine S65 ?_ | refine S66 ?_ | refine S67 ?_ | refine S68 ?_ | refine S69 ?_ | refine S70 ?_ | refine S71 ?_ | refine S72 ?_ | refine S73 ?_ | refine S74 ?_ | refine S75 ?_ | refine S76 ?_ | refine S77 ?_ | refine S78 ?_ | refine S79 ?_ | refine S80 ?_ | refine S81 ?_ | refine S82 ?_ | refine S83 ?_ | refine S84 ?_ | refine S85 ?_ | refine S86 ?_)
    refine ⟨(i + 1, (zs.set i (zs.getD j 0)).set j (zs.getD i 0)), ⟨by simp only; omega, by simp [h2], by simp only; omega, fun q hq => ?_⟩, ?_, ⟨?_, ?_⟩, by simp only; omega⟩
    · simp only
      have e1 := h3 i (by omega)
      have e2 := h3 j (by omega)
      rw [if_neg (by omega)] at e1 e2
      by_cases q1 : q = j
      · subst q1
        rw [if_pos (by omega), getD_lt 0 (by simp; omega)]
        simp only [List.getElem_set_self]
        rw [e1, show xs.length - 1 - q = i by omega]
      · by_cases q2 : q = i
        · subst q2
          rw [if_pos (by omega), getD_lt 0 (by simp; omega), List.getElem_set_ne (by omega)]
          simp only [List.getElem_set_self]
          rw [e2, show xs.length - 1 - q = j by omega]
        · rw [getD_lt 0 (by simp; omega), List.getElem_set_ne (by omega), List.getElem_set_ne (by omega), ← getD_lt 0 (by omega), h3 q hq]
          by_cases c : q < i ∨ xs.length < q + 1 + i
          · rw [if_pos c, if_pos (by omega)]
          · rw [if_neg c, if_neg (by omega)]
    · simp only
      rw [show (xs.length : Int) - 1 - ((i + 1 : Nat) : Int) = (j : Int) - 1 by omega]
      exact SLx
    · exact HBx
    · exact (hFr.set _ (.inl (by simp))).set _ (.inl (by simp))
  · have hz : zs = xs.reverse := by
      apply List.ext_getElem
      · simp [h2]
      · intro q g1 g2
        have := h3 q (by omega)
        rw [getD_lt 0 g1] at this
        rw [this, List.getElem_reverse]
        split
        · rw [getD_lt 0 (by omega)]
        · rw [getD_lt 0 (by omega)]
          congr 1; omega
    subst hz
    repeat (first | refine S0 ?_ | refine S1 ?_ | refine S2 ?_ | refine S3 ?_ | refine S4 ?_ | refine S5 ?_ | refine S6 ?_ | refine S7 ?_ | refine S8 ?_ | refine S9 ?_ | refine S10 ?_ | refine S11 ?_ | refine S12 ?_ | refine S13 ?_ | refine S14 ?_ | refine S15 ?_ | refine S16 ?_ | refine S17 ?_ ?_ | refine S18 ?_ | refine S19 ?_ | refine S20 ?_ | refine S21 ?_ | refine S22 ?_ | refine S23 ?_ | refine S24 ?_ | refine S25 ?_ | refine S26 ?_ | refine S27 ?_ | refine S28 ?_ | refine S29 ?_ | refine S30 ?_ | refine S31 ?_ | refine S32 ?_ | refine S33 ?_ | refine S34 ?_ | refine S35 ?_ | refine S36 ?_ | refine S37 ?_ | refine S38 ?_ | refine S39 ?_ | refine S40 ?_ | refine S41 ?_ | refine S42 ?_ | refine S43 ?_ | refine S44 ?_ | refine S45 ?_ | refine S46 ?_ | refine S47 ?_ | refine S48 ?_ | refine S49 ?_ | refine S50 ?_ | refine S51 ?_ | refine S52 ?_ | refine S53 ?_ | refine S54 ?_ | refine S55 ?_ | refine S56 ?_ | refine S57 ?_ | refine S58 ?_ | refine S59 ?_ | refine S60 ?_ | refine S61 ?_ | refine S62 ?_ | refine S63 ?_ | refine S64 ?_ | refine S65 ?_ | refine S66 ?_ | refine S67 ?_ | refine S68 ?_ | refine S69 ?_ | refine S70 ?_ | refine S71 ?_ | refine S72 ?_ | refine S73 ?_ | refine S74 ?_ | refine S75 ?_ | refine S76 ?_ | refine S77 ?_ | refine S78 ?_ | refine S79 ?_ | refine S80 ?_ | refine S81 ?_ | refine S82 ?_ | refine S83 ?_ | refine S84 ?_ | refine S85 ?_ | refine S86 ?_)
    exact ⟨.inl rfl, _, rfl, hB, hFr⟩
end Go.Proofs.Ytehilackpaejnaa
