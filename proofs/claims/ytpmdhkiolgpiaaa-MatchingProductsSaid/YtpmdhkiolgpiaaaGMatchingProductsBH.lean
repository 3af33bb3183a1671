/-
  Rows of ints that the call may write: 'Mine'. Nothing of the program is here.
-/
import Derived.Test.YtpmdhkiolgpiaaaGMatchingProductsBG
import Derived.Sort.Row
import Derived.Shelf.Slices.Turned
import Derived.Shelf.Slices.Equal
import Derived.Ground.Names2Prog
import Derived.Shelf.Slices.Clone
import Derived.Shelf.Slices.Delete
import Derived.Shelf.Slices.Cells
import Derived.Shelf.Slices.Empties
import Derived.Shelf.Slices.Empties2
import Derived.Test.YtpmdhkiolgpiaaaProg
import Derived.Test.YtpmdhkiolgpiaaaRows
import Derived.Test.YtpmdhkiolgpiaaaGMatchingProductsBF
set_option linter.unusedVariables false
set_option linter.unusedSimpArgs false
namespace Go.Proofs.Ytpmdhkiolgpiaaa
open Go.RowKit

/-- '.slice A xs.length cap' reads as xs, lies in a block from B on, and may be written. -/
structure Mine (w : World) (B : Nat) (A : Option Addr) (cap : Nat) (xs : List Int) : Prop where
  ints : IsInts w A cap xs
  low : ∀ b o, A = some ⟨b, o, none⟩ → B ≤ b ∧ b < w.heap.size
  free : ∀ b o, A = some ⟨b, o, none⟩ → ∀ i, i < xs.length → w.frozen? ⟨b, o + i, none⟩ = false

def blkOf (A : Option Addr) : Option Nat := A.map (·.block)

theorem Mine.kept {w w' : World} {B : Nat} {A : Option Addr} {cap : Nat} {xs : List Int} {row : Option Nat} (h : Mine w B A cap xs) (hg : w.grownBy w' row) (hne : ∀ b o, A = some ⟨b, o, none⟩ → row ≠ some b) : Mine w' B A cap xs :=
  ⟨h.ints.kept hg hne, fun b o hA => ⟨(h.low b o hA).1, Nat.lt_of_lt_of_le (h.low b o hA).2 hg.size⟩, fun b o hA i hi => (World.frozen?_of_block (a := ⟨b, o + i, none⟩) (hg.block b (h.low b o hA).2 (fun e => hne b o hA e.symm))).trans (h.free b o hA i hi)⟩
theorem Mine.alloc {w : World} {B : Nat} {A : Option Addr} {cap : Nat} {xs : List Int} (h : Mine w B A cap xs) (o : Obj) : Mine (w.alloc o) B A cap xs := h.kept (World.grownBy_alloc _ _ none) (by simp)
theorem Mine.below {w w' : World} {B C : Nat} {A : Option Addr} {cap : Nat} {xs : List Int} (h : Mine w B A cap xs) (hb : Below C w w') (hC : w.heap.size ≤ C) : Mine w' B A cap xs :=
  h.kept (row := none) ⟨hb.os, hb.tape, hb.output, hb.size, fun k hk _ => hb.block k (by omega)⟩ (by simp)
theorem Mine.mono {w : World} {B B' : Nat} {A : Option Addr} {cap : Nat} {xs : List Int} (h : Mine w B A cap xs) (hB : B' ≤ B) : Mine w B' A cap xs := ⟨h.ints, fun b o hA => ⟨Nat.le_trans hB (h.low b o hA).1, (h.low b o hA).2⟩, h.free⟩

open Go.Sort in
theorem Mine.holds {w : World} {B b o cap : Nat} {xs : List Int} (h : Mine w B (some ⟨b, o, none⟩) cap xs) : Holds (Value.int .i64) w b o xs.toArray := by
  intro j hj
  have hj' : j < xs.length := by simpa using hj
  obtain ⟨b', o', e, _, hc⟩ := h.ints.row (by rintro rfl; simp at hj')
  cases e
  refine ⟨?_, h.free b o rfl j hj'⟩
  rw [hc j hj', getD_lt 0 hj']
  simp [hj']
open Go.Sort in
/-- Behind a store of a whole row of the same length or a longer one. -/
theorem Mine.put {w : World} {B b o cap q : Nat} {xs : List Int} (h : Mine w B (some ⟨b, o, none⟩) cap xs) (ys zs : List Int) (hl : (ys ++ zs).length = xs.length) (hbd : ∀ i, i < ys.length → in64 (ys.getD i 0)) :
    Mine (putRow (Value.int .i64) (Sort.ahead w q) b o (ys ++ zs).toArray) B (some ⟨b, o, none⟩) cap ys := by
  have hH := h.holds
  have h1 := h.ints.len
  have hlen : ys.length ≤ xs.length := by simp at hl; omega
  refine ⟨⟨by omega, h.ints.cap_le, hbd, fun hy => ⟨b, o, rfl, ?_, fun i hi => ?_⟩⟩, fun b' o' hA => ?_, fun b' o' hA i hi => ?_⟩
  · simpa using (h.low b o rfl).2
  · rw [cell?_putRow (Value.int .i64) (Sort.ahead w q) b o xs.toArray (ys ++ zs).toArray hH (by simpa using hl) i (by simp; omega)]
    rw [getD_lt 0 hi]
    simp [List.getElem_append_left hi, show i < ys.length + zs.length by omega]
  · cases hA
    have := h.low b o rfl
    exact ⟨this.1, by simpa using this.2⟩
  · cases hA
    simpa using h.free b o rfl i (by omega)

end Go.Proofs.Ytpmdhkiolgpiaaa

/- The contracts of the library functions that this seat calls, laid by the shelf at its translation. No condition of its own. -/
namespace Go.Proofs
open Go.Shelf
def Try.lays108_ren : Go.Shelf.Ren := ⟨fun | 108 => 56 | n => n, fun | 28 => 22 | 3 => 3 | 0 => 0 | 4 => 4 | n => n, fun | n => n⟩
def Try.lays111_ren : Go.Shelf.Ren := ⟨fun | 111 => 11 | n => n, fun | 28 => 22 | 3 => 3 | 4 => 4 | 0 => 0 | n => n, fun | n => n⟩
def Try.laysNm215_ren : Go.Shelf.Ren := ⟨fun | 15 => 62 | n => n, fun | 22 => 22 | 3 => 3 | 4 => 4 | n => n, fun | n => n⟩
def Try.laysNm223_ren : Go.Shelf.Ren := ⟨fun | 23 => 57 | n => n, fun | 22 => 22 | 3 => 3 | 4 => 4 | 0 => 0 | n => n, fun | n => n⟩
theorem Try.laysNm223 : Go.Proofs.Lays2.n23 Try.prog Try.laysNm223_ren := {
  mixed := by kernel_rfl
  f23 := Try.func57.trans (congrArg some (by kernel_rfl))
  t0 := Try.underlying0
  a0 := Try.isAgg0
  z0 := Try.sizeOf0
  v0 := Try.zeroValue0
  t3 := Try.underlying3
  a3 := Try.isAgg3
  z3 := Try.sizeOf3
  v3 := Try.zeroValue3
  t4 := Try.underlying4
  a4 := Try.isAgg4
  z4 := Try.sizeOf4
  v4 := Try.zeroValue4
  t22 := Try.underlying22
  a22 := Try.isAgg22
  z22 := Try.sizeOf22
  v22 := Try.zeroValue22
  i3 := by kernel_rfl }
open Go.RowKit Go.Lib Go.Sort in
theorem Try.slices_Delete_int (blk off cap i j : Nat) (zs : List Int) (w : World) (hH : Holds (Value.int .i64) w blk off zs.toArray) (hcap : zs.length ≤ cap) (hm : cap ≤ 9223372036854775807) (hij : i ≤ j) (hj : j ≤ zs.length) :
    Calls Try.prog 57 #[.slice (some ⟨blk, off, none⟩) zs.length cap, .int .i64 i, .int .i64 j] w fun e w' => e = .returned (.slice (some ⟨blk, off, none⟩) (zs.length - (j - i)) cap) ∧ ∃ q, w' = putRow (Value.int .i64) (Sort.ahead w q) blk off (zs.take i ++ zs.drop j ++ List.replicate (j - i) 0).toArray := Any.slices_Delete_int Try.laysNm223 blk off cap i j zs w hH hcap hm hij hj
end Go.Proofs

/- Contracts of functions of this seat, and plain facts for them: used by the claims. No condition of its own. -/
set_option linter.unusedVariables false
set_option linter.unusedSimpArgs false
namespace Go.Proofs.Ytpmdhkiolgpiaaa
open Go.RowKit

end Go.Proofs.Ytpmdhkiolgpiaaa

/- slices.Delete on a slice of the caller's own. No condition of its own. -/
set_option linter.unusedVariables false
set_option linter.unusedSimpArgs false
namespace Go.Proofs.Ytpmdhkiolgpiaaa
open Go.RowKit

open Go.Sort in
theorem delete_m {zs : List Int} {i j : Nat} (hij : i ≤ j) (hj : j ≤ zs.length) : SCm Try.prog 57 zs [.int .i64 i, .int .i64 j] (zs.take i ++ zs.drop j) := by
  refine ⟨callable Try.func57 rfl rfl, fun w b k cap arr T hb hcap hn hm hv => ?_⟩
  unfold maxLen at hm
  have hH : Holds (Value.int .i64) w b k zs.toArray := by
    intro q hq
    have hq' : q < zs.length := by simpa using hq
    refine ⟨?_, by simp [World.frozen?, hb]⟩
    rw [cell_live hb (by omega), hv q hq', getD_lt 0 hq']
    simp [hq']
  refine (Try.slices_Delete_int b k cap i j zs w hH hn (by omega) hij hj).mono fun e w' hh => ?_
  obtain ⟨rfl, q, rfl⟩ := hh
  have hlen : (zs.take i ++ zs.drop j ++ List.replicate (j - i) 0).length = zs.length := by simp; omega
  have hyl : (zs.take i ++ zs.drop j).length = zs.length - (j - i) := by simp; omega
  refine ⟨by rw [hyl], by omega, ?_⟩
  generalize hd : (zs.take i ++ zs.drop j ++ List.replicate (j - i) 0).toArray = d
  have hds : d.size = zs.length := by rw [← hd]; simpa using hlen
  have hbw : (putRow (Value.int .i64) (Sort.ahead w q) b k d).heap[b]? = some (.cells (putCells (Value.int .i64) k d arr) T (0, 0)) := by
    simp [putRow, mapBlock, Array.getElem?_modify, hb, onCells]
  have hcells : ∀ m, m < zs.length → (putCells (Value.int .i64) k d arr).getD (k + m) undef = .int .i64 (d[m]!) := fun m hm2 => by
    have h1 : k + m < arr.size := by omega
    simp [putCells, Array.getD, h1, hds, hm2]
  refine ⟨putCells (Value.int .i64) k d arr, by simp [putCells], ⟨rfl, rfl, rfl, by simp [putRow, mapBlock], fun m _ => ?_⟩, fun m hm2 => ?_⟩
  · by_cases e : m = b
    · subst e
      rw [hbw, setRow_heap w m arr _ T (0, 0) hb]
    · rw [setRow_other _ _ _ _ e]
      have hn : ¬ b = m := fun h => e h.symm
      simp [putRow, mapBlock, Array.getElem?_modify, hn]
  · rw [hcells m (by omega)]
    subst hd
    rw [getD_lt 0 hm2]
    have h3 : m < zs.length := by omega
    have h4 : m < (zs.take i ++ zs.drop j ++ List.replicate (j - i) 0).length := by omega
    congr 1
    have h5 : (zs.take i ++ zs.drop j ++ List.replicate (j - i) 0)[m]? = some ((zs.take i ++ zs.drop j)[m]) := by
      rw [List.getElem?_append_left hm2, List.getElem?_eq_getElem hm2]
    generalize (zs.take i ++ zs.drop j)[m] = v at *
    rw [List.append_assoc] at h5
    simp [h5]
end Go.Proofs.Ytpmdhkiolgpiaaa
