/- permgroup: Order, Contains. No condition of its own. -/
import Derived.Test.YthacglggkgmbhaaGGroupFactorsBO
set_option linter.unusedVariables false
set_option linter.unusedSimpArgs false
namespace Go.Proofs.Ythacglggkgmbhaa
open Go.RowKit

@[simp] theorem clL_pli (l : List (List Int)) : PV.cl.clL (l.map pli) = true := clL_mem.2 fun c hc => by
  obtain ⟨x, _, rfl⟩ := List.mem_map.1 hc
  exact pli_cl x
@[simp] theorem clL_gL (n : Nat) (l : List Fn) : PV.cl.clL (gL n l) = true := clL_mem.2 fun c hc => by
  obtain ⟨x, _, rfl⟩ := List.mem_map.1 hc
  exact pli_cl _
@[simp] theorem pint_cl2 (x : Int) : (pint x).cl = true := rfl
@[simp] theorem pli_cl2 (x : List Int) : (pli x).cl = true := pli_cl x
theorem same_len {α : Type} {a b : List α} (ha : a.Nodup) (hb : b.Nodup) (h : ∀ x, x ∈ a ↔ x ∈ b) : a.length = b.length := ((List.perm_ext_iff_of_nodup ha hb).2 h).length_eq
set_option maxHeartbeats 8000000 in
set_option maxRecDepth 100000 in
theorem gorder_bad {n : Int} {c : Bool} {l : List (List Int)} (hb : ∀ r ∈ l, ∀ x ∈ r, in64 x) (hll : l.length ≤ 9223372036854775807) (h0 : grF n l ≠ 0) : SC Try.prog 14 [pint n, .lst c 1 l.length (l.map pli)] (.tup [pint 0, pint (grF n l)]) := by
  have kc := gcheck_s n (c := c) hb hll
  refine SC.go {} tok mixed Try.func14 rfl rfl Try.ntmps14 rfl rfl (by kernel_rfl) ?_
  first | simp only [updS] | simp only [updL, Nat.reduceAdd]
  repeat (first | refine S0 ?_ | refine S1 ?_ | refine S2 ?_ | refine S5 ?_ | refine S7 ?_ | refine S8 ?_ | refine S9 ?_ | refine S15 ?_ | refine S16 ?_ | refine S19 ?_ | refine S20 ?_ | refine S28 ?_ | refine S29 ?_ | refine S34 ?_ | refine S49 ?_)
  refine Scall (args := [pint n, .lst c 1 l.length (l.map pli)]) kc ?_
  generalize grF n l = y at *
  repeat (first | refine S0 ?_ | refine S1 ?_ | refine S2 ?_ | refine S5 ?_ | refine S7 ?_ | refine S8 ?_ | refine S9 ?_ | refine S15 ?_ | refine S16 ?_ | refine S19 ?_ | refine S20 ?_ | refine S28 ?_ | refine S29 ?_ | refine S34 ?_ | refine S49 ?_)
  exact ⟨.inr rfl, .cl rfl⟩
set_option maxHeartbeats 8000000 in
set_option maxRecDepth 100000 in
theorem gorder_ok {n : Nat} (hn : n ≤ 9) {c : Bool} {gs : List Fn} (hg : ∀ g ∈ gs, Pe n g) (hl : gs.length ≤ 6) (h0 : SC Try.prog 13 [pint n, .lst c 1 gs.length (gL n gs)] (pint 0)) {E : List Fn} (hE : E.Nodup) (hm : ∀ p, p ∈ E ↔ Gm (· ∈ gs) p) :
    SC Try.prog 14 [pint n, .lst c 1 gs.length (gL n gs)] (.tup [pint (E.length : Nat), pint 0]) := by
  refine SC.go {} tok mixed Try.func14 rfl rfl Try.ntmps14 rfl rfl (by kernel_rfl) ?_
  first | simp only [updS] | simp only [updL, Nat.reduceAdd]
  repeat (first | refine S0 ?_ | refine S1 ?_ | refine S2 ?_ | refine S5 ?_ | refine S7 ?_ | refine S8 ?_ | refine S9 ?_ | refine S15 ?_ | refine S16 ?_ | refine S19 ?_ | refine S20 ?_ | refine S28 ?_ | refine S29 ?_ | refine S34 ?_ | refine S49 ?_)
  refine Scall (args := [pint n, .lst c 1 gs.length (gL n gs)]) h0 ?_
  repeat (first | refine S0 ?_ | refine S1 ?_ | refine S2 ?_ | refine S5 ?_ | refine S7 ?_ | refine S8 ?_ | refine S9 ?_ | refine S15 ?_ | refine S16 ?_ | refine S19 ?_ | refine S20 ?_ | refine S28 ?_ | refine S29 ?_ | refine S34 ?_ | refine S49 ?_)
  refine Scalle (args := [pint n, .lst c 1 gs.length (gL n gs)]) (newChain_e hn hg (by omega)) ?_
  rintro r h' ⟨vt, mt, et, R, S, rfl, H, G, hS⟩
  refine Scalle (args := [chn n vt]) (size_e hn H G) ?_
  rintro r h2 ⟨rfl, rfl⟩
  have e : sizes R n 0 = E.length := by
    rw [← elems_len n R n 0]
    exact same_len (elems_nodup hn n 0 (by omega) G) hE (fun p => by rw [elems_mem hn n 0 (by omega) G, hS, hm])
  rw [e]
  repeat (first | refine S0 ?_ | refine S1 ?_ | refine S2 ?_ | refine S5 ?_ | refine S7 ?_ | refine S8 ?_ | refine S9 ?_ | refine S15 ?_ | refine S16 ?_ | refine S19 ?_ | refine S20 ?_ | refine S28 ?_ | refine S29 ?_ | refine S34 ?_ | refine S49 ?_)
  exact ⟨.inr rfl, .cl rfl⟩
end Go.Proofs.Ythacglggkgmbhaa
