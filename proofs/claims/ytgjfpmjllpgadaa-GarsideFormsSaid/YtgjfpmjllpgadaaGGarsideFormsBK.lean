/- slices.Delete on a slice of the caller's own. No condition of its own. -/
import Derived.Test.YtgjfpmjllpgadaaGGarsideFormsBE
import Derived.Test.YtgjfpmjllpgadaaGGarsideFormsAW
import Derived.Test.YtgjfpmjllpgadaaGGarsideFormsAA
import Derived.Test.YtgjfpmjllpgadaaGGarsideFormsBD
import Derived.Test.YtgjfpmjllpgadaaGGarsideFormsAZ
import Derived.RangeFuncBox
import Derived.RangeFuncLeaves
import Derived.RangeFuncNested
import Derived.Shelf.Abstract
import Derived.WalkKit
import Derived.OwnWalkIn
import Derived.TacticsInMore
import Derived.LoopNIn
import Derived.LoopIn
import Derived.Maps.AppendAt
set_option linter.unusedVariables false
set_option linter.unusedSimpArgs false
namespace Go.Proofs.Ytgjfpmjllpgadaa
open Go.RowKit

open Go.Sort in
theorem delete_m {zs : List Int} {i j : Nat} (hij : i ≤ j) (hj : j ≤ zs.length) : SCm Try.prog 129 zs [.int .i64 i, .int .i64 j] (zs.take i ++ zs.drop j) := by
  refine ⟨callable Try.func129 rfl rfl, fun w b k cap arr T hb hcap hn hm hv => ?_⟩
  unfold maxLen at hm
  have hH : Holds (Value.int .i64) w b k zs.toArray := by
    intro q hq
    have hq' : q < zs.length := by simpa using hq
    refine ⟨?_, by simp [World.frozen?, hb]⟩
    rw [cell_live hb (by omega), hv q hq', getD_lt 0 hq']
    simp [hq']
  refine (Try.slices_Delete_int b k cap i j zs w hH hn (by omega) hij hj).mono fun e w' hh => ?_
  obtain ⟨rfl, q, rfl⟩ := hh
  have hlen : (zs.take i ++ zs.drop j ++ List.replicate (j - i) 0).length = zs.length := by simp; omega
  have hyl : (zs.take i ++ zs.drop j).length = zs.length - (j - i) := by simp; omega
  refine ⟨by rw [hyl], by omega, ?_⟩
  generalize hd : (zs.take i ++ zs.drop j ++ List.replicate (j - i) 0).toArray = d
  have hds : d.size = zs.length := by rw [← hd]; simpa using hlen
  have hbw : (putRow (Value.int .i64) (Sort.ahead w q) b k d).heap[b]? = some (.cells (putCells (Value.int .i64) k d arr) T (0, 0)) := by
    simp [putRow, mapBlock, Array.getElem?_modify, hb, onCells]
  have hcells : ∀ m, m < zs.length → (putCells (Value.int .i64) k d arr).getD (k + m) undef = .int .i64 (d[m]!) := fun m hm2 => by
    have h1 : k + m < arr.size := by omega
    simp [putCells, Array.getD, h1, hds, hm2]
  refine ⟨putCells (Value.int .i64) k d arr, by simp [putCells], ⟨rfl, rfl, rfl, by simp [putRow, mapBlock], fun m _ => ?_⟩, fun m hm2 => ?_⟩
  · by_cases e : m = b
    · subst e
      rw [hbw, setRow_heap w m arr _ T (0, 0) hb]
    · rw [setRow_other _ _ _ _ e]
      have hn : ¬ b = m := fun h => e h.symm
      simp [putRow, mapBlock, Array.getElem?_modify, hn]
  · rw [hcells m (by omega)]
    subst hd
    rw [getD_lt 0 hm2]
    have h3 : m < zs.length := by omega
    have h4 : m < (zs.take i ++ zs.drop j ++ List.replicate (j - i) 0).length := by omega
    congr 1
    have h5 : (zs.take i ++ zs.drop j ++ List.replicate (j - i) 0)[m]? = some ((zs.take i ++ zs.drop j)[m]) := by
      rw [List.getElem?_append_left hm2, List.getElem?_eq_getElem hm2]
    generalize (zs.take i ++ zs.drop j)[m] = v at *
    rw [List.append_assoc] at h5
    simp [h5]
end Go.Proofs.Ytgjfpmjllpgadaa

/- Words: contracts by lists. No condition of its own. -/
set_option linter.unusedVariables false
set_option linter.unusedSimpArgs false
namespace Go.Proofs.Ytgjfpmjllpgadaa
open Go.RowKit

def genP (x : Int) : Prop := x ≠ 0 ∧ -6 ≤ x ∧ x ≤ 6
instance (x : Int) : Decidable (genP x) := by unfold genP; exact inferInstance
def fF (w : List Int) : Int := if 60 < w.length then 2 else if ∀ x ∈ w, genP x then 0 else 1
/-- lists of lists -/
def pll (L : List (List Int)) : PV := .lst true 1 L.length (L.map pli)
theorem short_suffix {w : List Int} {k : Nat} (hk : k < w.length) : short (w.drop k) = consR (w.getD k 0) (short (w.drop (k + 1))) := by
  rw [List.drop_eq_getElem_cons hk, getD_lt 0 hk]; rfl
set_option maxHeartbeats 2000000 in
set_option maxRecDepth 15000000000000 in
theorem short_s {w : List Int} (hl : w.length ≤ 15000000000000) (hbd : ∀ k, k < w.length → -1000 ≤ w.getD k 0 ∧ w.getD k 0 ≤ 1000) : SC Try.prog 81 [pli w] (pli (short w)) := by
  refine SC.go {} tok mixed Try.func81 rfl rfl Try.ntmps81 rfl rfl (by kernel_rfl) ?_
  first | simp only [updS] | simp only [updL, Nat.reduceAdd]
  have hC := clone_o w (by omega)
  by_cases h0 : w = []
  · subst h0
    repeat (first | refine S0 ?_ | refine S1 ?_ | refine S2 ?_ | refine S3 ?_ | refine S4 ?_ | refine S5 ?_ | refine S6 ?_ | refine S7 ?_ | refine S8 ?_ | refine S10 ?_ | refine S11 ?_ | refine S13 ?_ | refine S15 ?_ | refine S16 ?_ | refine S19 ?_ | refine S20 ?_ | refine S21 ?_ | refine S22 ?_ | refine S24 ?_ | refine S27 ?_ | refine S28 ?_ | refine S32 ?_ | refine S33 ?_ | refine S35 ?_ | refine S37 ?_ | refine S38 ?_ | refine S40 ?_ | refine S41 ?_ | refine S46 ?_)
    refine Scallo (args := [pli []]) hC ?_
    repeat (first | refine S0 ?_ | refine S1 ?_ | refine S2 ?_ | refine S3 ?_ | refine S4 ?_ | refine S5 ?_ | refine S6 ?_ | refine S7 ?_ | refine S8 ?_ | refine S10 ?_ | refine S11 ?_ | refine S13 ?_ | refine S15 ?_ | refine S16 ?_ | refine S19 ?_ | refine S20 ?_ | refine S21 ?_ | refine S22 ?_ | refine S24 ?_ | refine S27 ?_ | refine S28 ?_ | refine S32 ?_ | refine S33 ?_ | refine S35 ?_ | refine S37 ?_ | refine S38 ?_ | refine S40 ?_ | refine S41 ?_ | refine S46 ?_)
    refine CW.loopS (fun _ : Unit => True) (fun _ => [(0, .ref 0 0 1 0), (3, pint (-2))]) (fun _ h => h.blk 0 = some (ints [])) (fun _ => 0) () ⟨trivial, SLx, (by (try dsimp only); repeat' (first | exact HBx | exact SBx | refine And.intro ?_ ?_))⟩ ?_
    rintro _ t hp _ B
    first | simp only [updS] | simp only [updL, Nat.reduceAdd]
    repeat (first | refine S0 ?_ | refine S1 ?_ | refine S2 ?_ | refine S3 ?_ | refine S4 ?_ | refine S5 ?_ | refine S6 ?_ | refine S7 ?_ | refine S8 ?_ | refine S10 ?_ | refine S11 ?_ | refine S13 ?_ | refine S15 ?_ | refine S16 ?_ | refine S19 ?_ | refine S20 ?_ | refine S21 ?_ | refine S22 ?_ | refine S24 ?_ | refine S27 ?_ | refine S28 ?_ | refine S32 ?_ | refine S33 ?_ | refine S35 ?_ | refine S37 ?_ | refine S38 ?_ | refine S40 ?_ | refine S41 ?_ | refine S46 ?_)
    exact ⟨.inr rfl, Fz.refI HBx rfl rfl⟩
  · have hpos : 0 < w.length := List.length_pos_iff.2 h0
    repeat (first | refine S0 ?_ | refine S1 ?_ | refine S2 ?_ | refine S3 ?_ | refine S4 ?_ | refine S5 ?_ | refine S6 ?_ | refine S7 ?_ | refine S8 ?_ | refine S10 ?_ | refine S11 ?_ | refine S13 ?_ | refine S15 ?_ | refine S16 ?_ | refine S19 ?_ | refine S20 ?_ | refine S21 ?_ | refine S22 ?_ | refine S24 ?_ | refine S27 ?_ | refine S28 ?_ | refine S32 ?_ | refine S33 ?_ | refine S35 ?_ | refine S37 ?_ | refine S38 ?_ | refine S40 ?_ | refine S41 ?_ | refine S46 ?_)
    refine Scallo (args := [pli w]) hC ?_
    repeat (first | refine S0 ?_ | refine S1 ?_ | refine S2 ?_ | refine S3 ?_ | refine S4 ?_ | refine S5 ?_ | refine S6 ?_ | refine S7 ?_ | refine S8 ?_ | refine S10 ?_ | refine S11 ?_ | refine S13 ?_ | refine S15 ?_ | refine S16 ?_ | refine S19 ?_ | refine S20 ?_ | refine S21 ?_ | refine S22 ?_ | refine S24 ?_ | refine S27 ?_ | refine S28 ?_ | refine S32 ?_ | refine S33 ?_ | refine S35 ?_ | refine S37 ?_ | refine S38 ?_ | refine S40 ?_ | refine S41 ?_ | refine S46 ?_)
    have hinit : w.take (w.length - 1) ++ short (w.drop (w.length - 1)) = w := by
      have : short (w.drop (w.length - 1)) = w.drop (w.length - 1) := by
        rw [List.drop_eq_getElem_cons (by omega), show w.length - 1 + 1 = w.length by omega, List.drop_length]; rfl
      rw [this, List.take_append_drop]
    refine CW.loopS (fun k : Nat => k ≤ w.length) (fun k => [(0, .ref 0 0 1 (w.take k ++ short (w.drop k)).length), (3, pint ((k : Int) - 1))]) (fun k h => h.blk 0 = some (ints (w.take k ++ short (w.drop k)))) (fun k => k) (w.length - 1) ⟨by omega, by rw [hinit, show ((w.length - 1 : Nat) : Int) - 1 = (w.length : Int) - 2 by omega]; exact SLx, by rw [hinit]; exact (by (try dsimp only); repeat' (first | exact HBx | exact SBx | refine And.intro ?_ ?_))⟩ ?_
    rintro k t hp hk B
    first | simp only [updS] | simp only [updL, Nat.reduceAdd]
    cases k with
    | zero =>
      repeat (first | refine S0 ?_ | refine S1 ?_ | refine S2 ?_ | refine S3 ?_ | refine S4 ?_ | refine S5 ?_ | refine S6 ?_ | refine S7 ?_ | refine S8 ?_ | refine S10 ?_ | refine S11 ?_ | refine S13 ?_ | refine S15 ?_ | refine S16 ?_ | refine S19 ?_ | refine S20 ?_ | refine S21 ?_ | refine S22 ?_ | refine S24 ?_ | refine S27 ?_ | refine S28 ?_ | refine S32 ?_ | refine S33 ?_ | refine S35 ?_ | refine S37 ?_ | refine S38 ?_ | refine S40 ?_ | refine S41 ?_ | refine S46 ?_)
      exact ⟨.inr rfl, Fz.refI HBx rfl (by simp)⟩
    | succ j =>
      have hjw : j < w.length := by omega
      have hb := hbd j hjw
      have hst := short_suffix hjw
      have htk : w.take (j + 1) = w.take j ++ [w.getD j 0] := by rw [List.take_succ_eq_append_getElem hjw, getD_lt 0 hjw]
      have hta : (w.take j).length = j := by simp; omega
      rw [htk] at B ⊢
      rw [show ((j + 1 : Nat) : Int) - 1 = (j : Int) by omega]
      generalize hS : short (w.drop (j + 1)) = S at *
      generalize hx : w.getD j 0 = x at *
      generalize hA : w.take j = A at *
      have hsl : S.length ≤ 15000000000000 := by rw [← hS]; have := short_len (w.drop (j + 1)); simp at this; omega
      have hsm : ∀ y ∈ S, -1000 ≤ y ∧ y ≤ 1000 := fun y hy => by
        rw [← hS] at hy
        obtain ⟨q, hq, rfl⟩ := List.getElem_of_mem (List.mem_of_mem_drop (short_mem _ y hy))
        have := hbd q hq
        rwa [getD_lt 0 hq] at this
      cases S with
      | nil =>
        have hW : A ++ [x] ++ [] = A ++ consR x [] := by simp [consR]
        have hlW : (A ++ [x] ++ []).length = j + 1 := by simp [hta]
        generalize A ++ [x] ++ [] = W at *
        repeat (first | refine S0 ?_ | refine S1 ?_ | refine S2 ?_ | refine S3 ?_ | refine S4 ?_ | refine S5 ?_ | refine S6 ?_ | refine S7 ?_ | refine S8 ?_ | refine S10 ?_ | refine S11 ?_ | refine S13 ?_ | refine S15 ?_ | refine S16 ?_ | refine S19 ?_ | refine S20 ?_ | refine S21 ?_ | refine S22 ?_ | refine S24 ?_ | refine S27 ?_ | refine S28 ?_ | refine S32 ?_ | refine S33 ?_ | refine S35 ?_ | refine S37 ?_ | refine S38 ?_ | refine S40 ?_ | refine S41 ?_ | refine S46 ?_)
        refine ⟨j, by omega, ?_, ?_, by omega⟩
        · rw [hst, hA, ← hW]; exact SLx
        · rw [hst, hA, ← hW]; exact (by (try dsimp only); repeat' (first | exact HBx | exact SBx | refine And.intro ?_ ?_))
      | cons y S =>
        have hlW : (A ++ [x] ++ y :: S).length = j + 1 + (S.length + 1) := by simp [hta]; omega
        have g1 : (A ++ [x] ++ y :: S).getD j 0 = x := by
          rw [show j = A.length by omega]; simp [List.getD]
        have g2 : (A ++ [x] ++ y :: S).getD ((j : Int) + 1).toNat 0 = y := by
          rw [show ((j : Int) + 1).toNat = A.length + 1 by omega]; simp [List.getD, List.getElem?_append]
        have hy := hsm y (by simp)
        have hsl2 : S.length ≤ 15000000000000 := by simp at hsl; omega
        by_cases c : x = -y
        · have hys : (A ++ [x] ++ y :: S).take j ++ (A ++ [x] ++ y :: S).drop (j + 2) = A ++ consR x (y :: S) := by
            rw [← hta]; simp [consR, c]
          have hD := delete_m (zs := A ++ [x] ++ y :: S) (i := j) (j := j + 2) (by omega) (by omega)
          rw [hys] at hD
          rw [show ((j + 2 : Nat) : Int) = (j : Int) + 2 by omega] at hD
          generalize A ++ [x] ++ y :: S = W at *
          repeat (first | refine S0 ?_ | refine S1 ?_ | refine S2 ?_ | refine S3 ?_ | refine S4 ?_ | refine S5 ?_ | refine S6 ?_ | refine S7 ?_ | refine S8 ?_ | refine S10 ?_ | refine S11 ?_ | refine S13 ?_ | refine S15 ?_ | refine S16 ?_ | refine S19 ?_ | refine S20 ?_ | refine S21 ?_ | refine S22 ?_ | refine S24 ?_ | refine S27 ?_ | refine S28 ?_ | refine S32 ?_ | refine S33 ?_ | refine S35 ?_ | refine S37 ?_ | refine S38 ?_ | refine S40 ?_ | refine S41 ?_ | refine S46 ?_)
          refine Scallm B (by omega) hD ?_
          repeat (first | refine S0 ?_ | refine S1 ?_ | refine S2 ?_ | refine S3 ?_ | refine S4 ?_ | refine S5 ?_ | refine S6 ?_ | refine S7 ?_ | refine S8 ?_ | refine S10 ?_ | refine S11 ?_ | refine S13 ?_ | refine S15 ?_ | refine S16 ?_ | refine S19 ?_ | refine S20 ?_ | refine S21 ?_ | refine S22 ?_ | refine S24 ?_ | refine S27 ?_ | refine S28 ?_ | refine S32 ?_ | refine S33 ?_ | refine S35 ?_ | refine S37 ?_ | refine S38 ?_ | refine S40 ?_ | refine S41 ?_ | refine S46 ?_)
          refine ⟨j, by omega, ?_, ?_, by omega⟩
          · rw [hst, hA]; exact SLx
          · rw [hst, hA]; exact (by (try dsimp only); repeat' (first | exact HBx | exact SBx | refine And.intro ?_ ?_))
        · have hW : A ++ [x] ++ y :: S = A ++ consR x (y :: S) := by
            unfold consR; rw [if_neg (by simp; omega)]; simp
          generalize A ++ [x] ++ y :: S = W at *
          repeat (first | refine S0 ?_ | refine S1 ?_ | refine S2 ?_ | refine S3 ?_ | refine S4 ?_ | refine S5 ?_ | refine S6 ?_ | refine S7 ?_ | refine S8 ?_ | refine S10 ?_ | refine S11 ?_ | refine S13 ?_ | refine S15 ?_ | refine S16 ?_ | refine S19 ?_ | refine S20 ?_ | refine S21 ?_ | refine S22 ?_ | refine S24 ?_ | refine S27 ?_ | refine S28 ?_ | refine S32 ?_ | refine S33 ?_ | refine S35 ?_ | refine S37 ?_ | refine S38 ?_ | refine S40 ?_ | refine S41 ?_ | refine S46 ?_)
          refine ⟨j, by omega, ?_, ?_, by omega⟩
          · rw [hst, hA, ← hW]; exact SLx
          · rw [hst, hA, ← hW]; exact (by (try dsimp only); repeat' (first | exact HBx | exact SBx | refine And.intro ?_ ?_))
end Go.Proofs.Ytgjfpmjllpgadaa

/- Lists of lists, each with or without room behind it. No condition of its own. -/
set_option linter.unusedVariables false
set_option linter.unusedSimpArgs false
namespace Go.Proofs.Ytgjfpmjllpgadaa
open Go.RowKit

def pcl (p : Bool × List Int) : PV := .lst p.1 1 p.2.length (ints p.2)
def flat (cs : List (Bool × List Int)) : List Int := cs.flatMap (·.2)
theorem flat_take (cs : List (Bool × List Int)) (k : Nat) : (flat (cs.take k)).length ≤ (flat cs).length := by
  have h := congrArg (fun l => (flat l).length) (List.take_append_drop k cs)
  simp only [flat, List.flatMap_append, List.length_append] at h ⊢
  omega
theorem flat_succ {cs : List (Bool × List Int)} {k : Nat} (hk : k < cs.length) : flat (cs.take (k + 1)) = flat (cs.take k) ++ cs[k].2 := by
  unfold flat
  rw [List.take_succ_eq_append_getElem hk, List.flatMap_append]
  simp only [List.flatMap_cons, List.flatMap_nil, List.append_nil]
end Go.Proofs.Ytgjfpmjllpgadaa

/- Words: Reduced by lists. No condition of its own. -/
set_option linter.unusedVariables false
set_option linter.unusedSimpArgs false
namespace Go.Proofs.Ytgjfpmjllpgadaa
open Go.RowKit

end Go.Proofs.Ytgjfpmjllpgadaa

/- slices.Backward at lists of ints, as a range over a function wants it. No condition of its own. -/
set_option linter.unusedVariables false
set_option linter.unusedSimpArgs false
namespace Go.Proofs.Ytgjfpmjllpgadaa
open Go.RowKit Go.Shelf
attribute [local go_sem] Oper.semAt_some

def upto {α : Type} (f : Nat → α) (k : Nat) : List α := (List.range k).map f
/-- what a round keeps: all below n₀, and the iterator's own box -/
def KpB (n₀ Bs : Nat) (W W' : World) : Prop := Below n₀ W W' ∧ W'.heap[Bs]? = W.heap[Bs]?
theorem KpB.refl (n₀ Bs : Nat) (W : World) : KpB n₀ Bs W W := ⟨Below.refl _ _, rfl⟩
theorem KpB.trans {n₀ Bs : Nat} {A B C : World} (h : KpB n₀ Bs A B) (k : KpB n₀ Bs B C) : KpB n₀ Bs A C := ⟨h.1.trans k.1, k.2.trans h.2⟩
/-- what comes in round j: the index and the value, from the end on -/
def bk (zs : List Int) (j : Nat) : Int × Int := ((zs.length : Int) - 1 - j, zs[zs.length - 1 - j]?.getD 0)

/-- the slice holds zs, below n₀ -/
def HInts (n₀ : Nat) (W : World) (A : Option Addr) (zs : List Int) : Prop := zs = [] ∨ ∃ b off, A = some ⟨b, off, none⟩ ∧ b < n₀ ∧ ∀ j, j < zs.length → W.cell? ⟨b, off + j, none⟩ = some (.int .i64 (zs[j]?.getD 0))
theorem HInts.below {n₀ : Nat} {X Y : World} (h : Below n₀ X Y) {A : Option Addr} {zs : List Int} : HInts n₀ X A zs → HInts n₀ Y A zs
  | .inl e => .inl e
  | .inr ⟨b, off, e, hb, hc⟩ => .inr ⟨b, off, e, hb, fun j hj => (h.cell (p := ⟨b, off + j, none⟩) hb).trans (hc j hj)⟩
theorem HInts.of {w : World} {A : Option Addr} {cap : Nat} {zs : List Int} (h : IsInts w A cap zs) : HInts w.heap.size w A zs := by
  by_cases e : zs = []
  · exact .inl e
  · obtain ⟨b, o, rfl, hlt, hc⟩ := h.row e
    exact .inr ⟨b, o, rfl, hlt, fun j hj => by rw [hc j hj]; simp [List.getD]⟩
/-- what the loop has appended -/
def negs (pre : List (Int × Int)) : List Int := pre.map fun x => wrap64 (-x.2)
def invL (zs : List Int) : List Int := (zs.map fun x => -x).reverse
end Go.Proofs.Ytgjfpmjllpgadaa

/- Words: Reduce, Product, Inverse by lists. No condition of its own. -/
set_option linter.unusedVariables false
set_option linter.unusedSimpArgs false
namespace Go.Proofs.Ytgjfpmjllpgadaa
open Go.RowKit

/-- out[n-1-j] = F j for all j below k, the rest 0 -/
def fillR (n k : Nat) (F : Nat → Int) : List Int := (List.range n).map fun i => if n ≤ i + k then F (n - 1 - i) else 0
theorem fillR_len (n k : Nat) (F : Nat → Int) : (fillR n k F).length = n := by simp [fillR]
theorem fillR_zero (n : Nat) (F : Nat → Int) : fillR n 0 F = List.replicate n 0 := by
  apply List.ext_getElem
  · simp [fillR]
  · intro i h1 h2
    have : i < n := by simpa [fillR] using h1
    simp [fillR, show ¬ n ≤ i by omega]
theorem fillR_set {n k : Nat} {F : Nat → Int} (hk : k < n) : (fillR n k F).set (n - 1 - k) (F k) = fillR n (k + 1) F := by
  apply List.ext_getElem
  · simp [fillR]
  · intro i h1 h2
    have hi : i < n := by simpa [fillR] using h2
    rw [List.getElem_set]
    by_cases e : n - 1 - k = i
    · rw [if_pos e]
      simp [fillR, show n ≤ i + (k + 1) by omega, show n - 1 - i = k by omega]
    · rw [if_neg e]
      simp only [fillR, List.getElem_map, List.getElem_range]
      by_cases h3 : n ≤ i + k
      · rw [if_pos h3, if_pos (by omega)]
      · rw [if_neg h3, if_neg (by omega)]
theorem fillR_inv (w : List Int) : fillR w.length w.length (fun j => -(w.getD j 0)) = invL w := by
  apply List.ext_getElem
  · simp [fillR, invL]
  · intro i h1 h2
    have hi : i < w.length := by simpa [fillR] using h1
    have hj : w.length - 1 - i < w.length := by omega
    simp only [fillR, invL, List.getElem_map, List.getElem_range, List.getElem_reverse, List.length_map]
    rw [if_pos (by omega), getD_lt 0 hj]
set_option maxHeartbeats 2000000 in
set_option maxRecDepth 100000 in
theorem opposite_s {w : List Int} (hlw : w.length ≤ 1000) (hbd : ∀ k, k < w.length → -1000 ≤ w.getD k 0 ∧ w.getD k 0 ≤ 1000) : SC Try.prog 23 [pli w] (pli (invL w)) := by
  refine SC.go {} tok mixed Try.func23 rfl rfl Try.ntmps23 rfl rfl (by kernel_rfl) ?_
  first | simp only [updS] | simp only [updL, Nat.reduceAdd]
  repeat (first | refine S0 ?_ | refine S1 ?_ | refine S2 ?_ | refine S4 ?_ | refine S5 ?_ | refine S6 ?_ | refine S7 ?_ | refine S8 ?_ | refine S10 ?_ | refine S11 ?_ | refine S13 ?_ | refine S15 ?_ | refine S16 ?_ | refine S19 ?_ | refine S20 ?_ | refine S21 ?_ | refine S22 ?_ | refine S23 ?_ | refine S25 ?_ | refine S26 ?_ | refine S27 ?_ | refine S33 ?_ | refine S35 ?_ | refine S65 ?_ | refine S71 ?_)
  refine CW.loopS (fun k : Nat => k ≤ w.length) (fun k => [(0, pli w), (3, .ref 0 0 1 w.length), (9, pli w), (10, pint w.length), (11, pint k)]) (fun k h => h.blk 0 = some (ints (fillR w.length k (fun j => -(w.getD j 0))))) (fun k => w.length - k) 0 ⟨by omega, SLx, by rw [fillR_zero]; exact HBx⟩ ?_
  rintro k t hp hk B
  first | simp only [updS] | simp only [updL, Nat.reduceAdd]
  have hl := fillR_len w.length k (fun j => -(w.getD j 0))
  by_cases hk2 : k < w.length
  · have hs : (fillR w.length k (fun j => -(w.getD j 0))).set (w.length - 1 - k) (-(w.getD k 0)) = fillR w.length (k + 1) (fun j => -(w.getD j 0)) := fillR_set hk2
    have hb := hbd k hk2
    repeat (first | refine S0 ?_ | refine S1 ?_ | refine S2 ?_ | refine S4 ?_ | refine S5 ?_ | refine S6 ?_ | refine S7 ?_ | refine S8 ?_ | refine S10 ?_ | refine S11 ?_ | refine S13 ?_ | refine S15 ?_ | refine S16 ?_ | refine S19 ?_ | refine S20 ?_ | refine S21 ?_ | refine S22 ?_ | refine S23 ?_ | refine S25 ?_ | refine S26 ?_ | refine S27 ?_ | refine S33 ?_ | refine S35 ?_ | refine S65 ?_ | refine S71 ?_)
    simp only [show ((w.length : Int) - 1 - k).toNat = w.length - 1 - k by omega]
    rw [hs]
    exact ⟨k + 1, by omega, SLx, (by (try dsimp only); repeat' (first | exact HBx | exact SBx | refine And.intro ?_ ?_)), by omega⟩
  · obtain rfl : k = w.length := by omega
    rw [fillR_inv] at B
    repeat (first | refine S0 ?_ | refine S1 ?_ | refine S2 ?_ | refine S4 ?_ | refine S5 ?_ | refine S6 ?_ | refine S7 ?_ | refine S8 ?_ | refine S10 ?_ | refine S11 ?_ | refine S13 ?_ | refine S15 ?_ | refine S16 ?_ | refine S19 ?_ | refine S20 ?_ | refine S21 ?_ | refine S22 ?_ | refine S23 ?_ | refine S25 ?_ | refine S26 ?_ | refine S27 ?_ | refine S33 ?_ | refine S35 ?_ | refine S65 ?_ | refine S71 ?_)
    exact ⟨.inr rfl, Fz.refI HBx (by simp [invL]) rfl⟩
def bothF (a b : List Int) : Int := if fF a ≠ 0 then fF a else fF b
def prodF (a b : List Int) : Int := if bothF a b ≠ 0 then bothF a b else if 60 < (red (a ++ b)).length then 2 else 0
def prodL (a b : List Int) : List Int := if prodF a b = 0 then red (a ++ b) else []
end Go.Proofs.Ytgjfpmjllpgadaa
