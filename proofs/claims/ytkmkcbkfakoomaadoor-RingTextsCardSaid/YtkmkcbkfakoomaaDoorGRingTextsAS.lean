/- Facts and contracts that the claim uses. No condition of its own. -/
import Derived.Test.YtkmkcbkfakoomaaDoorGRingTextsAR
set_option linter.unusedVariables false
set_option linter.unusedSimpArgs false
namespace Go.Proofs.YtkmkcbkfakoomaaDoor
open Go.RowKit
def pint (x : Int) : PV := .sc (.int .i64 x)
def ints (xs : List Int) : List PV := xs.map fun x => .sc (.int .i64 x)
def pli (xs : List Int) : PV := .lst false 1 xs.length (ints xs)
@[simp] theorem ints_length (xs : List Int) : (ints xs).length = xs.length := by simp [ints]
theorem ints_get (xs : List Int) (k : Nat) : (ints xs)[k]? = (xs[k]?).map fun x => .sc (.int .i64 x) := by simp [ints]
theorem ints_drop (xs : List Int) (k : Nat) : (ints xs).drop k = ints (xs.drop k) := by simp [ints, List.map_drop]
theorem ints_take (xs : List Int) (k : Nat) : (ints xs).take k = ints (xs.take k) := by simp [ints, List.map_take]
theorem ints_append (xs ys : List Int) : ints xs ++ ints ys = ints (xs ++ ys) := by simp [ints]
theorem ints_set (xs : List Int) (k : Nat) (x : Int) : (ints xs).set k (.sc (.int .i64 x)) = ints (xs.set k x) := by simp [ints, List.map_set]
theorem ints_nil : ints [] = [] := rfl
theorem ints_one (x : Int) : [PV.sc (.int .i64 x)] = ints [x] := rfl
theorem ints_cl (xs : List Int) : PV.cl.clL (ints xs) = true := clL_mem.2 (fun c hc => by
  simp [ints] at hc
  obtain ⟨x, _, rfl⟩ := hc; rfl)
theorem ints_ones (xs : List Int) : ∀ p ∈ ints xs, p.one = true := by
  intro p hp
  simp [ints] at hp
  obtain ⟨x, _, rfl⟩ := hp; rfl
theorem ints_at {xs : List Int} {k : Nat} (h : k < xs.length) : (ints xs)[k]? = some (.sc (.int .i64 (xs.getD k 0))) := by
  rw [ints_get]; simp [List.getD, h]
theorem ints_drop0 {xs : List Int} {k : Nat} (h : k < xs.length) : ((ints xs).drop k)[0]? = some (.sc (.int .i64 (xs.getD k 0))) := by
  rw [List.getElem?_drop, Nat.add_zero]; exact ints_at h
theorem pli_cl (xs : List Int) : (pli xs).cl = true := by simp [pli, PV.cl, ints_cl]
def bls (n : Nat) (D : Nat → Bool) : List PV := (List.range n).map fun i => .sc (.bool (D i))
@[simp] theorem bls_length (n : Nat) (D : Nat → Bool) : (bls n D).length = n := by simp [bls]
theorem bls_at {n k : Nat} {D : Nat → Bool} (h : k < n) : (bls n D)[k]? = some (.sc (.bool (D k))) := by simp [bls, h]
theorem bls_drop0 {n k : Nat} {D : Nat → Bool} (h : k < n) : ((bls n D).drop k)[0]? = some (.sc (.bool (D k))) := by simp [bls, h]
def plt (xs : List Int) : PV := .lst true 1 xs.length (ints xs)
@[simp] theorem plt_cl (xs : List Int) : (plt xs).cl = true := by simp [plt, PV.cl, ints_cl]
def plls (ls : List (List Int)) : PV := .lst false 1 ls.length (ls.map pli)
theorem mapI_at {β : Type} {F : List β → PV} {l : List (List β)} {k : Nat} (h : k < l.length) : (l.map F)[k]? = some (F (l.getD k [])) := by simp [List.getD, h]
theorem mapI_drop0 {β : Type} {F : List β → PV} {l : List (List β)} {k : Nat} (h : k < l.length) : ((l.map F).drop k)[0]? = some (F (l.getD k [])) := by simp [List.getD, h]
theorem app_map {β : Type} {F : β → PV} {l : List β} {k : Nat} {x : β} (hk : k = l.length) : ((l.map F).drop 0).take (k * 1) ++ [F x] = (l ++ [x]).map F := by
  subst hk
  simp only [List.drop_zero, Nat.mul_one, List.map_append, List.map_cons, List.map_nil]
  rw [List.take_of_length_le (by simp)]
theorem plls_cl (ls : List (List Int)) : (plls ls).cl = true := by
  simp only [plls, PV.cl]
  refine clL_mem.2 (fun c hc => ?_)
  obtain ⟨x, _, rfl⟩ := List.mem_map.1 hc
  exact pli_cl x
theorem cells_sc (v : Value) : (PV.sc v).cells = [.sc v] := rfl
theorem cells_agg (cs : List PV) : (PV.agg cs).cells = cs := rfl
theorem cells_pint (x : Int) : (pint x).cells = [.sc (.int .i64 x)] := rfl
theorem cells_pli (x : List Int) : (pli x).cells = [pli x] := rfl
theorem cells_plt (x : List Int) : (plt x).cells = [plt x] := rfl
theorem cells_plls (x : List (List Int)) : (plls x).cells = [plls x] := rfl
theorem cells_lst (b : Bool) (s n : Nat) (cs : List PV) : (PV.lst b s n cs).cells = [.lst b s n cs] := rfl
theorem cells_ref (t o s n : Nat) : (PV.ref t o s n).cells = [.ref t o s n] := rfl
theorem cells_ptr (t o : Nat) : (PV.ptr t o).cells = [.ptr t o] := rfl
theorem cells_lptr (cs : List PV) : (PV.lptr cs).cells = [.lptr cs] := rfl
theorem cells_clo (f : FuncId) (cs : List PV) : (PV.clo f cs).cells = [.clo f cs] := rfl
theorem cells_fmap (m : MF) : (PV.fmap m).cells = [.fmap m] := rfl
theorem cells_mref (t : Nat) : (PV.mref t).cells = [.mref t] := rfl
theorem in64_of {x : Int} (h : -9223372036854775808 ≤ x ∧ x ≤ 9223372036854775807) : in64 x := h
end Go.Proofs.YtkmkcbkfakoomaaDoor
