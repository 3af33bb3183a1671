/- slices.Delete on a slice of the caller's own. No condition of its own. -/
import Derived.Test.YtaadnnhfoihkgaaStd
import Derived.Test.YtaadnnhfoihkgaaAbsLib
set_option linter.unusedVariables false
set_option linter.unusedSimpArgs false
namespace Go.Proofs.Ytaadnnhfoihkgaa
open Go.RowKit

open Go.Sort in
theorem delete_m {zs : List Int} {i j : Nat} (hij : i ≤ j) (hj : j ≤ zs.length) : SCm Try.prog 109 zs [.int .i64 i, .int .i64 j] (zs.take i ++ zs.drop j) := by
  refine ⟨callable Try.func109 rfl rfl, fun w b k cap arr T hb hcap hn hm hv => ?_⟩
  unfold maxLen at hm
  have hH : Holds (Value.int .i64) w b k zs.toArray := by
    intro q hq
    have hq' : q < zs.length := by simpa using hq
    refine ⟨?_, by simp [World.frozen?, hb]⟩
    rw [cell_live hb (by omega), hv q hq', getD_lt 0 hq']
    simp [hq']
  refine (Try.slices_Delete_int b k cap i j zs w hH hn (by omega) hij hj).mono fun e w' hh => ?_
  obtain ⟨rfl, q, rfl⟩ := hh
  have hlen : (zs.take i ++ zs.drop j ++ List.replicate (j - i) 0).length = zs.length := by simp; omega
  have hyl : (zs.take i ++ zs.drop j).length = zs.length - (j - i) := by simp; omega
  refine ⟨by rw [hyl], by omega, ?_⟩
  generalize hd : (zs.take i ++ zs.drop j ++ List.replicate (j - i) 0).toArray = d
  have hds : d.size = zs.length := by rw [← hd]; simpa using hlen
  have hbw : (putRow (Value.int .i64) (Sort.ahead w q) b k d).heap[b]? = some (.cells (putCells (Value.int .i64) k d arr) T (0, 0)) := by
    simp [putRow, mapBlock, Array.getElem?_modify, hb, onCells]
  have hcells : ∀ m, m < zs.length → (putCells (Value.int .i64) k d arr).getD (k + m) undef = .int .i64 (d[m]!) := fun m hm2 => by
    have h1 : k + m < arr.size := by omega
    simp [putCells, Array.getD, h1, hds, hm2]
  refine ⟨putCells (Value.int .i64) k d arr, by simp [putCells], ⟨rfl, rfl, rfl, by simp [putRow, mapBlock], fun m _ => ?_⟩, fun m hm2 => ?_⟩
  · by_cases e : m = b
    · subst e
      rw [hbw, setRow_heap w m arr _ T (0, 0) hb]
    · rw [setRow_other _ _ _ _ e]
      have hn : ¬ b = m := fun h => e h.symm
      simp [putRow, mapBlock, Array.getElem?_modify, hn]
  · rw [hcells m (by omega)]
    subst hd
    rw [getD_lt 0 hm2]
    have h3 : m < zs.length := by omega
    have h4 : m < (zs.take i ++ zs.drop j ++ List.replicate (j - i) 0).length := by omega
    congr 1
    have h5 : (zs.take i ++ zs.drop j ++ List.replicate (j - i) 0)[m]? = some ((zs.take i ++ zs.drop j)[m]) := by
      rw [List.getElem?_append_left hm2, List.getElem?_eq_getElem hm2]
    generalize (zs.take i ++ zs.drop j)[m] = v at *
    rw [List.append_assoc] at h5
    simp [h5]
end Go.Proofs.Ytaadnnhfoihkgaa
