/- The reference's FactorsFault; the words of powers of the half twist and factors. No condition of its own. -/
import Derived.Test.YtgjfpmjllpgadaaGTopPermutationBraidsBG
import Derived.Test.YtgjfpmjllpgadaaGTopPermutationBraidsAV
import Derived.Test.YtgjfpmjllpgadaaGTopPermutationBraidsAZ
import Derived.Test.YtgjfpmjllpgadaaGTopPermutationBraidsBE
import Derived.Test.YtgjfpmjllpgadaaGTopPermutationBraidsAA
import Derived.Test.YtgjfpmjllpgadaaGTopPermutationBraidsBD
import Derived.Test.YtgjfpmjllpgadaaGTopPermutationBraidsAY
set_option linter.unusedVariables false
set_option linter.unusedSimpArgs false
namespace Go.Proofs.Ytgjfpmjllpgadaa
open Go.RowKit

end Go.Proofs.Ytgjfpmjllpgadaa

/- slices.Repeat, as a list of the caller's own. No condition of its own. -/
set_option linter.unusedVariables false
set_option linter.unusedSimpArgs false
namespace Go.Proofs.Ytgjfpmjllpgadaa
open Go.RowKit

/-- a list by its elements -/
def tbl (n : Nat) (G : Nat → Int) : List Int := (List.range n).map G
@[simp] theorem tbl_length (n : Nat) (G : Nat → Int) : (tbl n G).length = n := by simp [tbl]
theorem tbl_get {n : Nat} {G : Nat → Int} {i : Nat} (h : i < n) : (tbl n G).getD i 0 = G i := by simp [tbl, List.getD, h]
/-- d, over and over, up to the length n -/
def repT (d : List Int) (n : Nat) : List Int := tbl n (fun i => d.getD (i % d.length) 0)

/-- .. so far m -/
def repP (d : List Int) (n m : Nat) : List Int := tbl n (fun i => if i < m then d.getD (i % d.length) 0 else 0)
/-- d, k times -/
def rp (d : List Int) : Nat → List Int
  | 0 => []
  | k + 1 => rp d k ++ d
theorem rp_len (d : List Int) : ∀ k, (rp d k).length = d.length * k
  | 0 => rfl
  | k + 1 => by simp only [rp, List.length_append, rp_len d k, Nat.mul_succ]
end Go.Proofs.Ytgjfpmjllpgadaa

/- slices.Delete on a slice of the caller's own. No condition of its own. -/
set_option linter.unusedVariables false
set_option linter.unusedSimpArgs false
namespace Go.Proofs.Ytgjfpmjllpgadaa
open Go.RowKit

end Go.Proofs.Ytgjfpmjllpgadaa

/- Words: contracts by lists. No condition of its own. -/
set_option linter.unusedVariables false
set_option linter.unusedSimpArgs false
namespace Go.Proofs.Ytgjfpmjllpgadaa
open Go.RowKit

def genP (x : Int) : Prop := x ≠ 0 ∧ -6 ≤ x ∧ x ≤ 6
instance (x : Int) : Decidable (genP x) := by unfold genP; exact inferInstance
def fF (w : List Int) : Int := if 60 < w.length then 2 else if ∀ x ∈ w, genP x then 0 else 1
/-- lists of lists -/
def pll (L : List (List Int)) : PV := .lst true 1 L.length (L.map pli)
end Go.Proofs.Ytgjfpmjllpgadaa

/- Lists of lists, each with or without room behind it. No condition of its own. -/
set_option linter.unusedVariables false
set_option linter.unusedSimpArgs false
namespace Go.Proofs.Ytgjfpmjllpgadaa
open Go.RowKit

def pcl (p : Bool × List Int) : PV := .lst p.1 1 p.2.length (ints p.2)
def flat (cs : List (Bool × List Int)) : List Int := cs.flatMap (·.2)
theorem flat_take (cs : List (Bool × List Int)) (k : Nat) : (flat (cs.take k)).length ≤ (flat cs).length := by
  have h := congrArg (fun l => (flat l).length) (List.take_append_drop k cs)
  simp only [flat, List.flatMap_append, List.length_append] at h ⊢
  omega
theorem flat_succ {cs : List (Bool × List Int)} {k : Nat} (hk : k < cs.length) : flat (cs.take (k + 1)) = flat (cs.take k) ++ cs[k].2 := by
  unfold flat
  rw [List.take_succ_eq_append_getElem hk, List.flatMap_append]
  simp only [List.flatMap_cons, List.flatMap_nil, List.append_nil]
end Go.Proofs.Ytgjfpmjllpgadaa

/- Words: Reduced by lists. No condition of its own. -/
set_option linter.unusedVariables false
set_option linter.unusedSimpArgs false
namespace Go.Proofs.Ytgjfpmjllpgadaa
open Go.RowKit

theorem len_push (st : List Int) (x : Int) : (push st x).length ≤ st.length + 1 := by
  unfold push; split <;> simp <;> omega
theorem len_foldl : ∀ (l st : List Int), (l.foldl push st).length ≤ st.length + l.length
  | [], _ => Nat.le_refl _
  | x :: l, st => by
    have h1 := len_foldl l (push st x)
    have h2 := len_push st x
    simp only [List.foldl_cons, List.length_cons]
    omega
theorem foldl_take_succ {xs st : List Int} {j : Nat} (hj : j < xs.length) : (xs.take (j + 1)).foldl push st = push ((xs.take j).foldl push st) (xs.getD j 0) := by
  rw [List.take_succ_eq_append_getElem hj, List.foldl_append, getD_lt 0 hj]; rfl
theorem push_pop {zs : List Int} {x : Int} {m : Nat} (hm : zs.length = m + 1) (h : zs.getD m 0 = -x) : push zs x = zs.take m := by
  unfold push
  rw [if_pos]
  · rw [List.dropLast_eq_take, hm]; rfl
  · rw [List.getLast?_eq_getElem?, hm]
    rw [getD_lt 0 (by omega)] at h
    simp [h, hm]
theorem push_on {zs : List Int} {x : Int} (h : zs = [] ∨ ∃ m, zs.length = m + 1 ∧ zs.getD m 0 ≠ -x) : push zs x = zs ++ [x] := by
  unfold push
  rw [if_neg]
  rcases h with rfl | ⟨m, hm, h⟩
  · simp
  · rw [List.getLast?_eq_getElem?, hm]
    rw [getD_lt 0 (by omega)] at h
    simp [hm, h]
set_option maxHeartbeats 2000000 in
set_option maxRecDepth 100000 in
theorem reduced_s {cs : List (Bool × List Int)} (hn : cs.length ≤ 1000) (hl : (flat cs).length ≤ 100000) (hbd : ∀ p ∈ cs, ∀ k, k < p.2.length → -1000 ≤ p.2.getD k 0 ∧ p.2.getD k 0 ≤ 1000) :
    SC Try.prog 124 [.lst true 1 cs.length (cs.map pcl)] (.lst true 1 (red (flat cs)).length (ints (red (flat cs)))) := by
  refine SC.go {} tok mixed Try.func124 rfl rfl Try.ntmps124 rfl rfl (by kernel_rfl) ?_
  first | simp only [updS] | simp only [updL, Nat.reduceAdd]
  repeat (first | refine S0 ?_ | refine S1 ?_ | refine S2 ?_ | refine S4 ?_ | refine S5 ?_ | refine S6 ?_ | refine S7 ?_ | refine S8 ?_ | refine S10 ?_ | refine S11 ?_ | refine S13 ?_ | refine S15 ?_ | refine S16 ?_ | refine S19 ?_ | refine S20 ?_ | refine S21 ?_ | refine S22 ?_ | refine S23 ?_ | refine S24 ?_ | refine S25 ?_ | refine S26 ?_ | refine S27 ?_ | refine S28 ?_ | refine S30 ?_ | refine S33 ?_ | refine S35 ?_ | refine S37 ?_ | refine S38 ?_ | refine S40 ?_ | refine S41 ?_ | refine S46 ?_ | refine S49 ?_ | refine S63 ?_)
  refine CW.own 3 1 rfl ?_
  refine CW.loopS (fun i : Nat × List Int × Nat × Nat => i.1 ≤ cs.length ∧ i.2.2.1 ≤ i.2.1.length ∧ i.2.1.take i.2.2.1 = red (flat (cs.take i.1)) ∧ i.2.2.2 % 2 = 0)
    (fun i => [(3, .ref i.2.2.2 0 1 i.2.2.1), (9, .lst true 1 cs.length (cs.map pcl)), (10, pint cs.length), (11, pint i.1)]) (fun i h => h.blk i.2.2.2 = some (ints i.2.1)) (fun i => cs.length - i.1) (0, [], 0, 0) ⟨⟨by simp, by simp, by simp [flat, red], rfl⟩, SLx, (by (try dsimp only); repeat' (first | exact HBx | exact SBx | refine And.intro ?_ ?_))⟩ ?_
  rintro ⟨k, zs, m, T⟩ t hp ⟨hk, hm, hz, hT⟩ B
  simp only at hk hm hz hT B
  first | simp only [updS] | simp only [updL, Nat.reduceAdd]
  refine CW.trimI T m B ?_
  have hml : (zs.take m).length = m := by simp; omega
  rw [hz] at hml ⊢
  have hB2 := HP.set_same hp T (ints (red (flat (cs.take k))))
  generalize hp.set T (ints (red (flat (cs.take k)))) = hp2 at *
  by_cases hk2 : k < cs.length
  · have hfl := flat_take cs (k + 1)
    rw [flat_succ hk2, List.length_append] at hfl
    have hcell : (cs.map pcl)[k]? = some (pcl cs[k]) := by simp [hk2]
    have hbk := hbd cs[k] (List.getElem_mem hk2)
    have hfs := flat_succ hk2
    generalize hq : cs[k] = q at *
    obtain ⟨cb, xs⟩ := q
    simp only at hbk hfl hfs
    have hrl := len_foldl (flat (cs.take k)) []
    have hrk : red (flat (cs.take (k + 1))) = xs.foldl push (red (flat (cs.take k))) := by rw [hfs]; unfold red; rw [List.foldl_append]
    change (red (flat (cs.take k))).length ≤ _ at hrl
    simp only [List.length_nil, Nat.zero_add] at hrl
    generalize hS : red (flat (cs.take k)) = S at *
    subst hml
    clear hz
    repeat (first | refine S0 ?_ | refine S1 ?_ | refine S2 ?_ | refine S4 ?_ | refine S5 ?_ | refine S6 ?_ | refine S7 ?_ | refine S8 ?_ | refine S10 ?_ | refine S11 ?_ | refine S13 ?_ | refine S15 ?_ | refine S16 ?_ | refine S19 ?_ | refine S20 ?_ | refine S21 ?_ | refine S22 ?_ | refine S23 ?_ | refine S24 ?_ | refine S25 ?_ | refine S26 ?_ | refine S27 ?_ | refine S28 ?_ | refine S30 ?_ | refine S33 ?_ | refine S35 ?_ | refine S37 ?_ | refine S38 ?_ | refine S40 ?_ | refine S41 ?_ | refine S46 ?_ | refine S49 ?_ | refine S63 ?_)
    refine AW.ldl (by simp only [evA, upd, putA, ofConst, ofConst.ofCell, Nat.reduceEqDiff, ↓reduceIte, List.map_cons, List.map_nil, List.toList_toArray]; first | done | rfl) rfl (p := .lst cb 1 xs.length (ints xs)) (by rw [Int.toNat_natCast, Nat.mul_one, List.getElem?_drop, Nat.add_zero]; exact hcell) ?_
    repeat (first | refine S0 ?_ | refine S1 ?_ | refine S2 ?_ | refine S4 ?_ | refine S5 ?_ | refine S6 ?_ | refine S7 ?_ | refine S8 ?_ | refine S10 ?_ | refine S11 ?_ | refine S13 ?_ | refine S15 ?_ | refine S16 ?_ | refine S19 ?_ | refine S20 ?_ | refine S21 ?_ | refine S22 ?_ | refine S23 ?_ | refine S24 ?_ | refine S25 ?_ | refine S26 ?_ | refine S27 ?_ | refine S28 ?_ | refine S30 ?_ | refine S33 ?_ | refine S35 ?_ | refine S37 ?_ | refine S38 ?_ | refine S40 ?_ | refine S41 ?_ | refine S46 ?_ | refine S49 ?_ | refine S63 ?_)
    refine CW.loopS (fun i : Nat × List Int × Nat × Nat => i.1 ≤ xs.length ∧ i.2.2.1 ≤ i.2.1.length ∧ i.2.1.take i.2.2.1 = (xs.take i.1).foldl push S ∧ i.2.2.2 % 2 = 0)
      (fun i => [(3, .ref i.2.2.2 0 1 i.2.2.1), (9, .lst true 1 cs.length (cs.map pcl)), (10, pint cs.length), (11, pint k), (15, .lst cb 1 xs.length (ints xs)), (16, pint xs.length), (17, pint i.1)]) (fun i h => h.blk i.2.2.2 = some (ints i.2.1)) (fun i => xs.length - i.1) (0, S, S.length, T) ⟨⟨by simp, by simp, by simp, hT⟩, SLx, (by (try dsimp only); repeat' (first | exact HBx | exact SBx | refine And.intro ?_ ?_))⟩ ?_
    clear hB2 B hT
    rintro ⟨j, ys, m, T⟩ t hp ⟨hj, hm, hz, hT⟩ B
    simp only at hj hm hz hT B
    first | simp only [updS] | simp only [updL, Nat.reduceAdd]
    refine CW.trimI T m B ?_
    have hml : (ys.take m).length = m := by simp; omega
    have hRl := len_foldl (xs.take j) S
    rw [List.length_take] at hRl
    rw [hz] at hml ⊢
    have hB2 := HP.set_same hp T (ints ((xs.take j).foldl push S))
    generalize hp.set T (ints ((xs.take j).foldl push S)) = hp2 at *
    by_cases hj2 : j < xs.length
    · have hsx := foldl_take_succ (st := S) hj2
      have hbx := hbk j hj2
      generalize hx : xs.getD j 0 = x at *
      generalize hR : (xs.take j).foldl push S = R at *
      subst hml
      clear hz B
      cases hRn : R.length with
      | zero =>
        obtain rfl : R = [] := List.length_eq_zero_iff.1 hRn
        have hp3 := push_on (zs := []) (x := x) (.inl rfl)
        repeat (first | refine S0 ?_ | refine S1 ?_ | refine S2 ?_ | refine S4 ?_ | refine S5 ?_ | refine S6 ?_ | refine S7 ?_ | refine S8 ?_ | refine S10 ?_ | refine S11 ?_ | refine S13 ?_ | refine S15 ?_ | refine S16 ?_ | refine S19 ?_ | refine S20 ?_ | refine S21 ?_ | refine S22 ?_ | refine S23 ?_ | refine S24 ?_ | refine S25 ?_ | refine S26 ?_ | refine S27 ?_ | refine S28 ?_ | refine S30 ?_ | refine S33 ?_ | refine S35 ?_ | refine S37 ?_ | refine S38 ?_ | refine S40 ?_ | refine S41 ?_ | refine S46 ?_ | refine S49 ?_ | refine S63 ?_)
        rw [hx]
        exact ⟨(j + 1, [] ++ [x], 1, 2 * hp2.next), ⟨by simp only; omega, by simp, by simp only; rw [hsx, hp3]; rfl, by simp only; omega⟩, SLx, (by (try dsimp only); repeat' (first | exact HBx | exact SBx | refine And.intro ?_ ?_)), by simp only; omega⟩
      | succ m' =>
        have g1 : R.getD (((m' + 1 : Nat) : Int) - 1).toNat 0 = R.getD m' 0 := by rw [show (((m' + 1 : Nat) : Int) - 1).toNat = m' by omega]
        by_cases c : R.getD m' 0 = -x
        · have hp3 := push_pop hRn c
          repeat (first | refine S0 ?_ | refine S1 ?_ | refine S2 ?_ | refine S4 ?_ | refine S5 ?_ | refine S6 ?_ | refine S7 ?_ | refine S8 ?_ | refine S10 ?_ | refine S11 ?_ | refine S13 ?_ | refine S15 ?_ | refine S16 ?_ | refine S19 ?_ | refine S20 ?_ | refine S21 ?_ | refine S22 ?_ | refine S23 ?_ | refine S24 ?_ | refine S25 ?_ | refine S26 ?_ | refine S27 ?_ | refine S28 ?_ | refine S30 ?_ | refine S33 ?_ | refine S35 ?_ | refine S37 ?_ | refine S38 ?_ | refine S40 ?_ | refine S41 ?_ | refine S46 ?_ | refine S49 ?_ | refine S63 ?_)
          refine AW.slrTo (q := m') (by simp only [evA, upd, putA, ofConst, ofConst.ofCell, Nat.reduceEqDiff, ↓reduceIte, List.map_cons, List.map_nil, List.toList_toArray]; first | done | rfl) rfl (by simp only [evA, upd, putA, ofConst, ofConst.ofCell, Nat.reduceEqDiff, ↓reduceIte, List.map_cons, List.map_nil, List.toList_toArray]; first | done | rfl) (by omega) (by omega) ?_
          repeat (first | refine S0 ?_ | refine S1 ?_ | refine S2 ?_ | refine S4 ?_ | refine S5 ?_ | refine S6 ?_ | refine S7 ?_ | refine S8 ?_ | refine S10 ?_ | refine S11 ?_ | refine S13 ?_ | refine S15 ?_ | refine S16 ?_ | refine S19 ?_ | refine S20 ?_ | refine S21 ?_ | refine S22 ?_ | refine S23 ?_ | refine S24 ?_ | refine S25 ?_ | refine S26 ?_ | refine S27 ?_ | refine S28 ?_ | refine S30 ?_ | refine S33 ?_ | refine S35 ?_ | refine S37 ?_ | refine S38 ?_ | refine S40 ?_ | refine S41 ?_ | refine S46 ?_ | refine S49 ?_ | refine S63 ?_)
          exact ⟨(j + 1, R, m', T), ⟨by simp only; omega, by simp only; omega, by simp only; rw [hsx, hp3], hT⟩, SLx, (by (try dsimp only); repeat' (first | exact HBx | exact SBx | refine And.intro ?_ ?_)), by simp only; omega⟩
        · have hp3 := push_on (zs := R) (x := x) (.inr ⟨m', hRn, c⟩)
          repeat (first | refine S0 ?_ | refine S1 ?_ | refine S2 ?_ | refine S4 ?_ | refine S5 ?_ | refine S6 ?_ | refine S7 ?_ | refine S8 ?_ | refine S10 ?_ | refine S11 ?_ | refine S13 ?_ | refine S15 ?_ | refine S16 ?_ | refine S19 ?_ | refine S20 ?_ | refine S21 ?_ | refine S22 ?_ | refine S23 ?_ | refine S24 ?_ | refine S25 ?_ | refine S26 ?_ | refine S27 ?_ | refine S28 ?_ | refine S30 ?_ | refine S33 ?_ | refine S35 ?_ | refine S37 ?_ | refine S38 ?_ | refine S40 ?_ | refine S41 ?_ | refine S46 ?_ | refine S49 ?_ | refine S63 ?_)
          rw [hx]
          exact ⟨(j + 1, R ++ [x], m' + 1 + 1, 2 * hp2.next), ⟨by simp only; omega, by simp [hRn], by simp only; rw [hsx, hp3]; exact List.take_of_length_le (by simp [hRn]), by simp only; omega⟩, SLx, (by (try dsimp only); repeat' (first | exact HBx | exact SBx | refine And.intro ?_ ?_)), by simp only; omega⟩
    · obtain rfl : j = xs.length := by omega
      rw [List.take_length] at hB2 hml
      repeat (first | refine S0 ?_ | refine S1 ?_ | refine S2 ?_ | refine S4 ?_ | refine S5 ?_ | refine S6 ?_ | refine S7 ?_ | refine S8 ?_ | refine S10 ?_ | refine S11 ?_ | refine S13 ?_ | refine S15 ?_ | refine S16 ?_ | refine S19 ?_ | refine S20 ?_ | refine S21 ?_ | refine S22 ?_ | refine S23 ?_ | refine S24 ?_ | refine S25 ?_ | refine S26 ?_ | refine S27 ?_ | refine S28 ?_ | refine S30 ?_ | refine S33 ?_ | refine S35 ?_ | refine S37 ?_ | refine S38 ?_ | refine S40 ?_ | refine S41 ?_ | refine S46 ?_ | refine S49 ?_ | refine S63 ?_)
      exact ⟨(k + 1, xs.foldl push S, m, T), ⟨by simp only; omega, by simp only; omega, by simp only; rw [hrk, ← hml, List.take_length], hT⟩, SLx, (by (try dsimp only); repeat' (first | exact HBx | exact SBx | refine And.intro ?_ ?_)), by simp only; omega⟩
  · obtain rfl : k = cs.length := by omega
    rw [List.take_length] at hB2 hml
    refine CW.freezeI (xs := red (flat cs)) 3 ?_ hB2 ?_
    · rw [hml]; rfl
    repeat (first | refine S0 ?_ | refine S1 ?_ | refine S2 ?_ | refine S4 ?_ | refine S5 ?_ | refine S6 ?_ | refine S7 ?_ | refine S8 ?_ | refine S10 ?_ | refine S11 ?_ | refine S13 ?_ | refine S15 ?_ | refine S16 ?_ | refine S19 ?_ | refine S20 ?_ | refine S21 ?_ | refine S22 ?_ | refine S23 ?_ | refine S24 ?_ | refine S25 ?_ | refine S26 ?_ | refine S27 ?_ | refine S28 ?_ | refine S30 ?_ | refine S33 ?_ | refine S35 ?_ | refine S37 ?_ | refine S38 ?_ | refine S40 ?_ | refine S41 ?_ | refine S46 ?_ | refine S49 ?_ | refine S63 ?_)
    refine Scall (args := [pli (red (flat cs))]) (clip_s _) ?_
    repeat (first | refine S0 ?_ | refine S1 ?_ | refine S2 ?_ | refine S4 ?_ | refine S5 ?_ | refine S6 ?_ | refine S7 ?_ | refine S8 ?_ | refine S10 ?_ | refine S11 ?_ | refine S13 ?_ | refine S15 ?_ | refine S16 ?_ | refine S19 ?_ | refine S20 ?_ | refine S21 ?_ | refine S22 ?_ | refine S23 ?_ | refine S24 ?_ | refine S25 ?_ | refine S26 ?_ | refine S27 ?_ | refine S28 ?_ | refine S30 ?_ | refine S33 ?_ | refine S35 ?_ | refine S37 ?_ | refine S38 ?_ | refine S40 ?_ | refine S41 ?_ | refine S46 ?_ | refine S49 ?_ | refine S63 ?_)
    exact ⟨.inr rfl, .cl (show (PV.lst true 1 _ (ints _)).cl = true by simp [PV.cl, ints_cl])⟩
end Go.Proofs.Ytgjfpmjllpgadaa
