/- The reference's Tight; garside.Check, the reference's FactorsFault. No condition of its own. -/
import Derived.Test.YtgjfpmjllpgadaaGGarsideEqualsBD
import Derived.Test.YtgjfpmjllpgadaaGGarsideEqualsAV
import Derived.Test.YtgjfpmjllpgadaaGGarsideEqualsAY
import Derived.Test.YtgjfpmjllpgadaaGGarsideEqualsBC
import Derived.Test.YtgjfpmjllpgadaaGGarsideEqualsAA
set_option linter.unusedVariables false
set_option linter.unusedSimpArgs false
namespace Go.Proofs.Ytgjfpmjllpgadaa
open Go.RowKit

/-- the fault of the factor i -/
def gAt (n : Nat) (l : List (List Int)) (i : Nat) : Int :=
  if permFault (l.getD i []) ≠ 0 then permFault (l.getD i []) else if (l.getD i []).length ≠ n ∨ l.getD i [] = tabN n (fun i => i) ∨ l.getD i [] = rvT n ∨ (0 < i ∧ tgt n (l.getD (i - 1) []) (l.getD i []) = false) then 3 else 0
def gFrom (n : Nat) (l : List (List Int)) : Nat → Nat → Int
  | 0, _ => 0
  | d + 1, i => if gAt n l i ≠ 0 then gAt n l i else gFrom n l d (i + 1)
def gF (n : Int) (l : List (List Int)) : Int := if n < 2 ∨ 6 < n then 1 else if 30 < l.length then 2 else gFrom n.toNat l l.length 0
end Go.Proofs.Ytgjfpmjllpgadaa

/- The reference's FactorsFault; the words of powers of the half twist and factors. No condition of its own. -/
set_option linter.unusedVariables false
set_option linter.unusedSimpArgs false
namespace Go.Proofs.Ytgjfpmjllpgadaa
open Go.RowKit

end Go.Proofs.Ytgjfpmjllpgadaa

/- slices.Repeat, as a list of the caller's own. No condition of its own. -/
set_option linter.unusedVariables false
set_option linter.unusedSimpArgs false
namespace Go.Proofs.Ytgjfpmjllpgadaa
open Go.RowKit

/-- a list by its elements -/
def tbl (n : Nat) (G : Nat → Int) : List Int := (List.range n).map G
@[simp] theorem tbl_length (n : Nat) (G : Nat → Int) : (tbl n G).length = n := by simp [tbl]
theorem tbl_get {n : Nat} {G : Nat → Int} {i : Nat} (h : i < n) : (tbl n G).getD i 0 = G i := by simp [tbl, List.getD, h]
/-- d, over and over, up to the length n -/
def repT (d : List Int) (n : Nat) : List Int := tbl n (fun i => d.getD (i % d.length) 0)

/-- .. so far m -/
def repP (d : List Int) (n m : Nat) : List Int := tbl n (fun i => if i < m then d.getD (i % d.length) 0 else 0)
/-- d, k times -/
def rp (d : List Int) : Nat → List Int
  | 0 => []
  | k + 1 => rp d k ++ d
end Go.Proofs.Ytgjfpmjllpgadaa

/- slices.Delete on a slice of the caller's own. No condition of its own. -/
set_option linter.unusedVariables false
set_option linter.unusedSimpArgs false
namespace Go.Proofs.Ytgjfpmjllpgadaa
open Go.RowKit

open Go.Sort in
theorem delete_m {zs : List Int} {i j : Nat} (hij : i ≤ j) (hj : j ≤ zs.length) : SCm Try.prog 129 zs [.int .i64 i, .int .i64 j] (zs.take i ++ zs.drop j) := by
  refine ⟨callable Try.func129 rfl rfl, fun w b k cap arr T hb hcap hn hm hv => ?_⟩
  unfold maxLen at hm
  have hH : Holds (Value.int .i64) w b k zs.toArray := by
    intro q hq
    have hq' : q < zs.length := by simpa using hq
    refine ⟨?_, by simp [World.frozen?, hb]⟩
    rw [cell_live hb (by omega), hv q hq', getD_lt 0 hq']
    simp [hq']
  refine (Try.slices_Delete_int b k cap i j zs w hH hn (by omega) hij hj).mono fun e w' hh => ?_
  obtain ⟨rfl, q, rfl⟩ := hh
  have hlen : (zs.take i ++ zs.drop j ++ List.replicate (j - i) 0).length = zs.length := by simp; omega
  have hyl : (zs.take i ++ zs.drop j).length = zs.length - (j - i) := by simp; omega
  refine ⟨by rw [hyl], by omega, ?_⟩
  generalize hd : (zs.take i ++ zs.drop j ++ List.replicate (j - i) 0).toArray = d
  have hds : d.size = zs.length := by rw [← hd]; simpa using hlen
  have hbw : (putRow (Value.int .i64) (Sort.ahead w q) b k d).heap[b]? = some (.cells (putCells (Value.int .i64) k d arr) T (0, 0)) := by
    simp [putRow, mapBlock, Array.getElem?_modify, hb, onCells]
  have hcells : ∀ m, m < zs.length → (putCells (Value.int .i64) k d arr).getD (k + m) undef = .int .i64 (d[m]!) := fun m hm2 => by
    have h1 : k + m < arr.size := by omega
    simp [putCells, Array.getD, h1, hds, hm2]
  refine ⟨putCells (Value.int .i64) k d arr, by simp [putCells], ⟨rfl, rfl, rfl, by simp [putRow, mapBlock], fun m _ => ?_⟩, fun m hm2 => ?_⟩
  · by_cases e : m = b
    · subst e
      rw [hbw, setRow_heap w m arr _ T (0, 0) hb]
    · rw [setRow_other _ _ _ _ e]
      have hn : ¬ b = m := fun h => e h.symm
      simp [putRow, mapBlock, Array.getElem?_modify, hn]
  · rw [hcells m (by omega)]
    subst hd
    rw [getD_lt 0 hm2]
    have h3 : m < zs.length := by omega
    have h4 : m < (zs.take i ++ zs.drop j ++ List.replicate (j - i) 0).length := by omega
    congr 1
    have h5 : (zs.take i ++ zs.drop j ++ List.replicate (j - i) 0)[m]? = some ((zs.take i ++ zs.drop j)[m]) := by
      rw [List.getElem?_append_left hm2, List.getElem?_eq_getElem hm2]
    generalize (zs.take i ++ zs.drop j)[m] = v at *
    rw [List.append_assoc] at h5
    simp [h5]
end Go.Proofs.Ytgjfpmjllpgadaa

/- Words: contracts by lists. No condition of its own. -/
set_option linter.unusedVariables false
set_option linter.unusedSimpArgs false
namespace Go.Proofs.Ytgjfpmjllpgadaa
open Go.RowKit

def genP (x : Int) : Prop := x ≠ 0 ∧ -6 ≤ x ∧ x ≤ 6
instance (x : Int) : Decidable (genP x) := by unfold genP; exact inferInstance
def fF (w : List Int) : Int := if 60 < w.length then 2 else if ∀ x ∈ w, genP x then 0 else 1
/-- lists of lists -/
def pll (L : List (List Int)) : PV := .lst true 1 L.length (L.map pli)
theorem short_suffix {w : List Int} {k : Nat} (hk : k < w.length) : short (w.drop k) = consR (w.getD k 0) (short (w.drop (k + 1))) := by
  rw [List.drop_eq_getElem_cons hk, getD_lt 0 hk]; rfl
set_option maxHeartbeats 2000000 in
set_option maxRecDepth 15000000000000 in
theorem short_s {w : List Int} (hl : w.length ≤ 15000000000000) (hbd : ∀ k, k < w.length → -1000 ≤ w.getD k 0 ∧ w.getD k 0 ≤ 1000) : SC Try.prog 81 [pli w] (pli (short w)) := by
  refine SC.go {} tok mixed Try.func81 rfl rfl Try.ntmps81 rfl rfl (by kernel_rfl) ?_
  first | simp only [updS] | simp only [updL, Nat.reduceAdd]
  have hC := clone_o w (by omega)
  by_cases h0 : w = []
  · subst h0
    repeat (first | refine S0 ?_ | refine S1 ?_ | refine S2 ?_ | refine S3 ?_ | refine S4 ?_ | refine S5 ?_ | refine S6 ?_ | refine S7 ?_ | refine S8 ?_ | refine S10 ?_ | refine S11 ?_ | refine S13 ?_ | refine S15 ?_ | refine S16 ?_ | refine S19 ?_ | refine S20 ?_ | refine S21 ?_ | refine S22 ?_ | refine S24 ?_ | refine S27 ?_ | refine S28 ?_ | refine S32 ?_ | refine S33 ?_ | refine S35 ?_ | refine S37 ?_ | refine S38 ?_ | refine S40 ?_ | refine S41 ?_ | refine S46 ?_)
    refine Scallo (args := [pli []]) hC ?_
    repeat (first | refine S0 ?_ | refine S1 ?_ | refine S2 ?_ | refine S3 ?_ | refine S4 ?_ | refine S5 ?_ | refine S6 ?_ | refine S7 ?_ | refine S8 ?_ | refine S10 ?_ | refine S11 ?_ | refine S13 ?_ | refine S15 ?_ | refine S16 ?_ | refine S19 ?_ | refine S20 ?_ | refine S21 ?_ | refine S22 ?_ | refine S24 ?_ | refine S27 ?_ | refine S28 ?_ | refine S32 ?_ | refine S33 ?_ | refine S35 ?_ | refine S37 ?_ | refine S38 ?_ | refine S40 ?_ | refine S41 ?_ | refine S46 ?_)
    refine CW.loopS (fun _ : Unit => True) (fun _ => [(0, .ref 0 0 1 0), (3, pint (-2))]) (fun _ h => h.blk 0 = some (ints [])) (fun _ => 0) () ⟨trivial, SLx, (by (try dsimp only); repeat' (first | exact HBx | exact SBx | refine And.intro ?_ ?_))⟩ ?_
    rintro _ t hp _ B
    first | simp only [updS] | simp only [updL, Nat.reduceAdd]
    repeat (first | refine S0 ?_ | refine S1 ?_ | refine S2 ?_ | refine S3 ?_ | refine S4 ?_ | refine S5 ?_ | refine S6 ?_ | refine S7 ?_ | refine S8 ?_ | refine S10 ?_ | refine S11 ?_ | refine S13 ?_ | refine S15 ?_ | refine S16 ?_ | refine S19 ?_ | refine S20 ?_ | refine S21 ?_ | refine S22 ?_ | refine S24 ?_ | refine S27 ?_ | refine S28 ?_ | refine S32 ?_ | refine S33 ?_ | refine S35 ?_ | refine S37 ?_ | refine S38 ?_ | refine S40 ?_ | refine S41 ?_ | refine S46 ?_)
    exact ⟨.inr rfl, Fz.refI HBx rfl rfl⟩
  · have hpos : 0 < w.length := List.length_pos_iff.2 h0
    repeat (first | refine S0 ?_ | refine S1 ?_ | refine S2 ?_ | refine S3 ?_ | refine S4 ?_ | refine S5 ?_ | refine S6 ?_ | refine S7 ?_ | refine S8 ?_ | refine S10 ?_ | refine S11 ?_ | refine S13 ?_ | refine S15 ?_ | refine S16 ?_ | refine S19 ?_ | refine S20 ?_ | refine S21 ?_ | refine S22 ?_ | refine S24 ?_ | refine S27 ?_ | refine S28 ?_ | refine S32 ?_ | refine S33 ?_ | refine S35 ?_ | refine S37 ?_ | refine S38 ?_ | refine S40 ?_ | refine S41 ?_ | refine S46 ?_)
    refine Scallo (args := [pli w]) hC ?_
    repeat (first | refine S0 ?_ | refine S1 ?_ | refine S2 ?_ | refine S3 ?_ | refine S4 ?_ | refine S5 ?_ | refine S6 ?_ | refine S7 ?_ | refine S8 ?_ | refine S10 ?_ | refine S11 ?_ | refine S13 ?_ | refine S15 ?_ | refine S16 ?_ | refine S19 ?_ | refine S20 ?_ | refine S21 ?_ | refine S22 ?_ | refine S24 ?_ | refine S27 ?_ | refine S28 ?_ | refine S32 ?_ | refine S33 ?_ | refine S35 ?_ | refine S37 ?_ | refine S38 ?_ | refine S40 ?_ | refine S41 ?_ | refine S46 ?_)
    have hinit : w.take (w.length - 1) ++ short (w.drop (w.length - 1)) = w := by
      have : short (w.drop (w.length - 1)) = w.drop (w.length - 1) := by
        rw [List.drop_eq_getElem_cons (by omega), show w.length - 1 + 1 = w.length by omega, List.drop_length]; rfl
      rw [this, List.take_append_drop]
    refine CW.loopS (fun k : Nat => k ≤ w.length) (fun k => [(0, .ref 0 0 1 (w.take k ++ short (w.drop k)).length), (3, pint ((k : Int) - 1))]) (fun k h => h.blk 0 = some (ints (w.take k ++ short (w.drop k)))) (fun k => k) (w.length - 1) ⟨by omega, by rw [hinit, show ((w.length - 1 : Nat) : Int) - 1 = (w.length : Int) - 2 by omega]; exact SLx, by rw [hinit]; exact (by (try dsimp only); repeat' (first | exact HBx | exact SBx | refine And.intro ?_ ?_))⟩ ?_
    rintro k t hp hk B
    first | simp only [updS] | simp only [updL, Nat.reduceAdd]
    cases k with
    | zero =>
      repeat (first | refine S0 ?_ | refine S1 ?_ | refine S2 ?_ | refine S3 ?_ | refine S4 ?_ | refine S5 ?_ | refine S6 ?_ | refine S7 ?_ | refine S8 ?_ | refine S10 ?_ | refine S11 ?_ | refine S13 ?_ | refine S15 ?_ | refine S16 ?_ | refine S19 ?_ | refine S20 ?_ | refine S21 ?_ | refine S22 ?_ | refine S24 ?_ | refine S27 ?_ | refine S28 ?_ | refine S32 ?_ | refine S33 ?_ | refine S35 ?_ | refine S37 ?_ | refine S38 ?_ | refine S40 ?_ | refine S41 ?_ | refine S46 ?_)
      exact ⟨.inr rfl, Fz.refI HBx rfl (by simp)⟩
    | succ j =>
      have hjw : j < w.length := by omega
      have hb := hbd j hjw
      have hst := short_suffix hjw
      have htk : w.take (j + 1) = w.take j ++ [w.getD j 0] := by rw [List.take_succ_eq_append_getElem hjw, getD_lt 0 hjw]
      have hta : (w.take j).length = j := by simp; omega
      rw [htk] at B ⊢
      rw [show ((j + 1 : Nat) : Int) - 1 = (j : Int) by omega]
      generalize hS : short (w.drop (j + 1)) = S at *
      generalize hx : w.getD j 0 = x at *
      generalize hA : w.take j = A at *
      have hsl : S.length ≤ 15000000000000 := by rw [← hS]; have := short_len (w.drop (j + 1)); simp at this; omega
      have hsm : ∀ y ∈ S, -1000 ≤ y ∧ y ≤ 1000 := fun y hy => by
        rw [← hS] at hy
        obtain ⟨q, hq, rfl⟩ := List.getElem_of_mem (List.mem_of_mem_drop (short_mem _ y hy))
        have := hbd q hq
        rwa [getD_lt 0 hq] at this
      cases S with
      | nil =>
        have hW : A ++ [x] ++ [] = A ++ consR x [] := by simp [consR]
        have hlW : (A ++ [x] ++ []).length = j + 1 := by simp [hta]
        generalize A ++ [x] ++ [] = W at *
        repeat (first | refine S0 ?_ | refine S1 ?_ | refine S2 ?_ | refine S3 ?_ | refine S4 ?_ | refine S5 ?_ | refine S6 ?_ | refine S7 ?_ | refine S8 ?_ | refine S10 ?_ | refine S11 ?_ | refine S13 ?_ | refine S15 ?_ | refine S16 ?_ | refine S19 ?_ | refine S20 ?_ | refine S21 ?_ | refine S22 ?_ | refine S24 ?_ | refine S27 ?_ | refine S28 ?_ | refine S32 ?_ | refine S33 ?_ | refine S35 ?_ | refine S37 ?_ | refine S38 ?_ | refine S40 ?_ | refine S41 ?_ | refine S46 ?_)
        refine ⟨j, by omega, ?_, ?_, by omega⟩
        · rw [hst, hA, ← hW]; exact SLx
        · rw [hst, hA, ← hW]; exact (by (try dsimp only); repeat' (first | exact HBx | exact SBx | refine And.intro ?_ ?_))
      | cons y S =>
        have hlW : (A ++ [x] ++ y :: S).length = j + 1 + (S.length + 1) := by simp [hta]; omega
        have g1 : (A ++ [x] ++ y :: S).getD j 0 = x := by
          rw [show j = A.length by omega]; simp [List.getD]
        have g2 : (A ++ [x] ++ y :: S).getD ((j : Int) + 1).toNat 0 = y := by
          rw [show ((j : Int) + 1).toNat = A.length + 1 by omega]; simp [List.getD, List.getElem?_append]
        have hy := hsm y (by simp)
        have hsl2 : S.length ≤ 15000000000000 := by simp at hsl; omega
        by_cases c : x = -y
        · have hys : (A ++ [x] ++ y :: S).take j ++ (A ++ [x] ++ y :: S).drop (j + 2) = A ++ consR x (y :: S) := by
            rw [← hta]; simp [consR, c]
          have hD := delete_m (zs := A ++ [x] ++ y :: S) (i := j) (j := j + 2) (by omega) (by omega)
          rw [hys] at hD
          rw [show ((j + 2 : Nat) : Int) = (j : Int) + 2 by omega] at hD
          generalize A ++ [x] ++ y :: S = W at *
          repeat (first | refine S0 ?_ | refine S1 ?_ | refine S2 ?_ | refine S3 ?_ | refine S4 ?_ | refine S5 ?_ | refine S6 ?_ | refine S7 ?_ | refine S8 ?_ | refine S10 ?_ | refine S11 ?_ | refine S13 ?_ | refine S15 ?_ | refine S16 ?_ | refine S19 ?_ | refine S20 ?_ | refine S21 ?_ | refine S22 ?_ | refine S24 ?_ | refine S27 ?_ | refine S28 ?_ | refine S32 ?_ | refine S33 ?_ | refine S35 ?_ | refine S37 ?_ | refine S38 ?_ | refine S40 ?_ | refine S41 ?_ | refine S46 ?_)
          refine Scallm B (by omega) hD ?_
          repeat (first | refine S0 ?_ | refine S1 ?_ | refine S2 ?_ | refine S3 ?_ | refine S4 ?_ | refine S5 ?_ | refine S6 ?_ | refine S7 ?_ | refine S8 ?_ | refine S10 ?_ | refine S11 ?_ | refine S13 ?_ | refine S15 ?_ | refine S16 ?_ | refine S19 ?_ | refine S20 ?_ | refine S21 ?_ | refine S22 ?_ | refine S24 ?_ | refine S27 ?_ | refine S28 ?_ | refine S32 ?_ | refine S33 ?_ | refine S35 ?_ | refine S37 ?_ | refine S38 ?_ | refine S40 ?_ | refine S41 ?_ | refine S46 ?_)
          refine ⟨j, by omega, ?_, ?_, by omega⟩
          · rw [hst, hA]; exact SLx
          · rw [hst, hA]; exact (by (try dsimp only); repeat' (first | exact HBx | exact SBx | refine And.intro ?_ ?_))
        · have hW : A ++ [x] ++ y :: S = A ++ consR x (y :: S) := by
            unfold consR; rw [if_neg (by simp; omega)]; simp
          generalize A ++ [x] ++ y :: S = W at *
          repeat (first | refine S0 ?_ | refine S1 ?_ | refine S2 ?_ | refine S3 ?_ | refine S4 ?_ | refine S5 ?_ | refine S6 ?_ | refine S7 ?_ | refine S8 ?_ | refine S10 ?_ | refine S11 ?_ | refine S13 ?_ | refine S15 ?_ | refine S16 ?_ | refine S19 ?_ | refine S20 ?_ | refine S21 ?_ | refine S22 ?_ | refine S24 ?_ | refine S27 ?_ | refine S28 ?_ | refine S32 ?_ | refine S33 ?_ | refine S35 ?_ | refine S37 ?_ | refine S38 ?_ | refine S40 ?_ | refine S41 ?_ | refine S46 ?_)
          refine ⟨j, by omega, ?_, ?_, by omega⟩
          · rw [hst, hA, ← hW]; exact SLx
          · rw [hst, hA, ← hW]; exact (by (try dsimp only); repeat' (first | exact HBx | exact SBx | refine And.intro ?_ ?_))
end Go.Proofs.Ytgjfpmjllpgadaa
