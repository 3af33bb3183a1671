/- permgroup: Order, Contains. No condition of its own. -/
import Derived.Test.YthacglggkgmbhaaGGroupOrdersBP
set_option linter.unusedVariables false
set_option linter.unusedSimpArgs false
namespace Go.Proofs.Ythacglggkgmbhaa
open Go.RowKit

@[simp] theorem clL_pli (l : List (List Int)) : PV.cl.clL (l.map pli) = true := clL_mem.2 fun c hc => by
  obtain ⟨x, _, rfl⟩ := List.mem_map.1 hc
  exact pli_cl x
@[simp] theorem clL_gL (n : Nat) (l : List Fn) : PV.cl.clL (gL n l) = true := clL_mem.2 fun c hc => by
  obtain ⟨x, _, rfl⟩ := List.mem_map.1 hc
  exact pli_cl _
@[simp] theorem pint_cl2 (x : Int) : (pint x).cl = true := rfl
@[simp] theorem pli_cl2 (x : List Int) : (pli x).cl = true := pli_cl x
theorem same_len {α : Type} {a b : List α} (ha : a.Nodup) (hb : b.Nodup) (h : ∀ x, x ∈ a ↔ x ∈ b) : a.length = b.length := ((List.perm_ext_iff_of_nodup ha hb).2 h).length_eq
set_option maxHeartbeats 8000000 in
set_option maxRecDepth 100000 in
theorem gorder_bad {n : Int} {c : Bool} {l : List (List Int)} (hb : ∀ r ∈ l, ∀ x ∈ r, in64 x) (hll : l.length ≤ 9223372036854775807) (h0 : grF n l ≠ 0) : SC Try.prog 14 [pint n, .lst c 1 l.length (l.map pli)] (.tup [pint 0, pint (grF n l)]) := by
  have kc := gcheck_s n (c := c) hb hll
  refine SC.go {} tok mixed Try.func14 rfl rfl Try.ntmps14 rfl rfl (by kernel_rfl) ?_
  first | simp only [updS] | simp only [updL, Nat.reduceAdd]
  repeat (first | refine S0 ?_ | refine S1 ?_ | refine S2 ?_ | refine S5 ?_ | refine S7 ?_ | refine S8 ?_ | refine S9 ?_ | refine S15 ?_ | refine S16 ?_ | refine S19 ?_ | refine S20 ?_ | refine S28 ?_ | refine S29 ?_ | refine S34 ?_ | refine S49 ?_)
  refine Scall (args := [pint n, .lst c 1 l.length (l.map pli)]) kc ?_
  generalize grF n l = y at *
  repeat (first | refine S0 ?_ | refine S1 ?_ | refine S2 ?_ | refine S5 ?_ | refine S7 ?_ | refine S8 ?_ | refine S9 ?_ | refine S15 ?_ | refine S16 ?_ | refine S19 ?_ | refine S20 ?_ | refine S28 ?_ | refine S29 ?_ | refine S34 ?_ | refine S49 ?_)
  exact ⟨.inr rfl, .cl rfl⟩
set_option maxHeartbeats 8000000 in
set_option maxRecDepth 100000 in
theorem gorder_ok {n : Nat} (hn : n ≤ 9) {c : Bool} {gs : List Fn} (hg : ∀ g ∈ gs, Pe n g) (hl : gs.length ≤ 6) (h0 : SC Try.prog 13 [pint n, .lst c 1 gs.length (gL n gs)] (pint 0)) {E : List Fn} (hE : E.Nodup) (hm : ∀ p, p ∈ E ↔ Gm (· ∈ gs) p) :
    SC Try.prog 14 [pint n, .lst c 1 gs.length (gL n gs)] (.tup [pint (E.length : Nat), pint 0]) := by
  refine SC.go {} tok mixed Try.func14 rfl rfl Try.ntmps14 rfl rfl (by kernel_rfl) ?_
  first | simp only [updS] | simp only [updL, Nat.reduceAdd]
  repeat (first | refine S0 ?_ | refine S1 ?_ | refine S2 ?_ | refine S5 ?_ | refine S7 ?_ | refine S8 ?_ | refine S9 ?_ | refine S15 ?_ | refine S16 ?_ | refine S19 ?_ | refine S20 ?_ | refine S28 ?_ | refine S29 ?_ | refine S34 ?_ | refine S49 ?_)
  refine Scall (args := [pint n, .lst c 1 gs.length (gL n gs)]) h0 ?_
  repeat (first | refine S0 ?_ | refine S1 ?_ | refine S2 ?_ | refine S5 ?_ | refine S7 ?_ | refine S8 ?_ | refine S9 ?_ | refine S15 ?_ | refine S16 ?_ | refine S19 ?_ | refine S20 ?_ | refine S28 ?_ | refine S29 ?_ | refine S34 ?_ | refine S49 ?_)
  refine Scalle (args := [pint n, .lst c 1 gs.length (gL n gs)]) (newChain_e hn hg (by omega)) ?_
  rintro r h' ⟨vt, mt, et, R, S, rfl, H, G, hS⟩
  refine Scalle (args := [chn n vt]) (size_e hn H G) ?_
  rintro r h2 ⟨rfl, rfl⟩
  have e : sizes R n 0 = E.length := by
    rw [← elems_len n R n 0]
    exact same_len (elems_nodup hn n 0 (by omega) G) hE (fun p => by rw [elems_mem hn n 0 (by omega) G, hS, hm])
  rw [e]
  repeat (first | refine S0 ?_ | refine S1 ?_ | refine S2 ?_ | refine S5 ?_ | refine S7 ?_ | refine S8 ?_ | refine S9 ?_ | refine S15 ?_ | refine S16 ?_ | refine S19 ?_ | refine S20 ?_ | refine S28 ?_ | refine S29 ?_ | refine S34 ?_ | refine S49 ?_)
  exact ⟨.inr rfl, .cl rfl⟩
set_option maxHeartbeats 8000000 in
set_option maxRecDepth 100000 in
theorem gcont_bad {n : Int} {c : Bool} {l : List (List Int)} {p : List Int} (hb : ∀ r ∈ l, ∀ x ∈ r, in64 x) (hll : l.length ≤ 9223372036854775807) (h0 : grF n l ≠ 0) : SC Try.prog 15 [pint n, .lst c 1 l.length (l.map pli), pli p] (.tup [.sc (.bool false), pint (grF n l)]) := by
  have kc := gcheck_s n (c := c) hb hll
  refine SC.go {} tok mixed Try.func15 rfl rfl Try.ntmps15 rfl rfl (by kernel_rfl) ?_
  first | simp only [updS] | simp only [updL, Nat.reduceAdd]
  repeat (first | refine S0 ?_ | refine S1 ?_ | refine S2 ?_ | refine S5 ?_ | refine S7 ?_ | refine S8 ?_ | refine S9 ?_ | refine S15 ?_ | refine S16 ?_ | refine S19 ?_ | refine S20 ?_ | refine S28 ?_ | refine S29 ?_ | refine S34 ?_ | refine S49 ?_)
  refine Scall (args := [pint n, .lst c 1 l.length (l.map pli)]) kc ?_
  generalize grF n l = y at *
  repeat (first | refine S0 ?_ | refine S1 ?_ | refine S2 ?_ | refine S5 ?_ | refine S7 ?_ | refine S8 ?_ | refine S9 ?_ | refine S15 ?_ | refine S16 ?_ | refine S19 ?_ | refine S20 ?_ | refine S28 ?_ | refine S29 ?_ | refine S34 ?_ | refine S49 ?_)
  exact ⟨.inr rfl, .cl rfl⟩
set_option maxHeartbeats 8000000 in
set_option maxRecDepth 100000 in
theorem gcont_bad2 {n : Int} {c : Bool} {l : List (List Int)} {p : List Int} (hb : ∀ r ∈ l, ∀ x ∈ r, in64 x) (hp : ∀ x ∈ p, in64 x) (hll : l.length ≤ 9223372036854775807) (h0 : grF n l = 0) (h1 : grF n [p] ≠ 0) : SC Try.prog 15 [pint n, .lst c 1 l.length (l.map pli), pli p] (.tup [.sc (.bool false), pint (grF n [p])]) := by
  have kc := gcheck_s n (c := c) hb hll
  have k2 := gcheck_s n (c := true) (l := [p]) (fun r hr x hx => by simp only [List.mem_singleton] at hr; subst hr; exact hp x hx) (by simp)
  rw [h0] at kc
  refine SC.go {} tok mixed Try.func15 rfl rfl Try.ntmps15 rfl rfl (by kernel_rfl) ?_
  first | simp only [updS] | simp only [updL, Nat.reduceAdd]
  repeat (first | refine S0 ?_ | refine S1 ?_ | refine S2 ?_ | refine S5 ?_ | refine S7 ?_ | refine S8 ?_ | refine S9 ?_ | refine S15 ?_ | refine S16 ?_ | refine S19 ?_ | refine S20 ?_ | refine S28 ?_ | refine S29 ?_ | refine S34 ?_ | refine S49 ?_)
  refine Scall (args := [pint n, .lst c 1 l.length (l.map pli)]) kc ?_
  repeat (first | refine S0 ?_ | refine S1 ?_ | refine S2 ?_ | refine S5 ?_ | refine S7 ?_ | refine S8 ?_ | refine S9 ?_ | refine S15 ?_ | refine S16 ?_ | refine S19 ?_ | refine S20 ?_ | refine S28 ?_ | refine S29 ?_ | refine S34 ?_ | refine S49 ?_)
  refine Scall (args := [pint n, .lst true 1 1 [pli p]]) k2 ?_
  generalize grF n [p] = y at *
  repeat (first | refine S0 ?_ | refine S1 ?_ | refine S2 ?_ | refine S5 ?_ | refine S7 ?_ | refine S8 ?_ | refine S9 ?_ | refine S15 ?_ | refine S16 ?_ | refine S19 ?_ | refine S20 ?_ | refine S28 ?_ | refine S29 ?_ | refine S34 ?_ | refine S49 ?_)
  exact ⟨.inr rfl, .cl rfl⟩
set_option maxHeartbeats 8000000 in
set_option maxRecDepth 100000 in
theorem gcont_ok {n : Nat} (hn : n ≤ 9) {c : Bool} {gs : List Fn} (hg : ∀ g ∈ gs, Pe n g) (hl : gs.length ≤ 6) (h0 : SC Try.prog 13 [pint n, .lst c 1 gs.length (gL n gs)] (pint 0)) {p : Fn} (hp : Pe n p) (h1 : SC Try.prog 13 [pint n, .lst true 1 1 [pli (tabN n p)]] (pint 0)) {b : Bool} (hb : b = true ↔ Gm (· ∈ gs) p) :
    SC Try.prog 15 [pint n, .lst c 1 gs.length (gL n gs), pli (tabN n p)] (.tup [.sc (.bool b), pint 0]) := by
  refine SC.go {} tok mixed Try.func15 rfl rfl Try.ntmps15 rfl rfl (by kernel_rfl) ?_
  first | simp only [updS] | simp only [updL, Nat.reduceAdd]
  repeat (first | refine S0 ?_ | refine S1 ?_ | refine S2 ?_ | refine S5 ?_ | refine S7 ?_ | refine S8 ?_ | refine S9 ?_ | refine S15 ?_ | refine S16 ?_ | refine S19 ?_ | refine S20 ?_ | refine S28 ?_ | refine S29 ?_ | refine S34 ?_ | refine S49 ?_)
  refine Scall (args := [pint n, .lst c 1 gs.length (gL n gs)]) h0 ?_
  repeat (first | refine S0 ?_ | refine S1 ?_ | refine S2 ?_ | refine S5 ?_ | refine S7 ?_ | refine S8 ?_ | refine S9 ?_ | refine S15 ?_ | refine S16 ?_ | refine S19 ?_ | refine S20 ?_ | refine S28 ?_ | refine S29 ?_ | refine S34 ?_ | refine S49 ?_)
  refine Scall (args := [pint n, .lst true 1 1 [pli (tabN n p)]]) h1 ?_
  repeat (first | refine S0 ?_ | refine S1 ?_ | refine S2 ?_ | refine S5 ?_ | refine S7 ?_ | refine S8 ?_ | refine S9 ?_ | refine S15 ?_ | refine S16 ?_ | refine S19 ?_ | refine S20 ?_ | refine S28 ?_ | refine S29 ?_ | refine S34 ?_ | refine S49 ?_)
  refine Scalle (args := [pint n, .lst c 1 gs.length (gL n gs)]) (newChain_e hn hg (by omega)) ?_
  rintro r h' ⟨vt, mt, et, R, S, rfl, H, G, hS⟩
  repeat (first | refine S0 ?_ | refine S1 ?_ | refine S2 ?_ | refine S5 ?_ | refine S7 ?_ | refine S8 ?_ | refine S9 ?_ | refine S15 ?_ | refine S16 ?_ | refine S19 ?_ | refine S20 ?_ | refine S28 ?_ | refine S29 ?_ | refine S34 ?_ | refine S49 ?_)
  refine Scalle (args := [chn n vt, pli (tabN n p), pint (0 : Nat)]) (sift_e hn H G (Nat.zero_le _) hp (fun k hk => by omega)) ?_
  rintro r h2 ⟨rfl, i, q, rfl, s, hno⟩
  have hle := s.le
  have key : b = decide (i = n) := by
    have e1 := chain_eq hn n 0 (by omega) G p hp (fun k hk => by omega)
    by_cases c : i = n
    · subst c
      rw [decide_eq_true rfl, hb, ← hS, ← e1]
      exact s.full
    · rw [decide_eq_false c, ← Bool.not_eq_true, hb, ← hS, ← e1]
      exact s.stop (by omega) (hno (by omega))
  subst key
  repeat (first | refine S0 ?_ | refine S1 ?_ | refine S2 ?_ | refine S5 ?_ | refine S7 ?_ | refine S8 ?_ | refine S9 ?_ | refine S15 ?_ | refine S16 ?_ | refine S19 ?_ | refine S20 ?_ | refine S28 ?_ | refine S29 ?_ | refine S34 ?_ | refine S49 ?_)
  rw [show decide ((i : Int) = (n : Int)) = decide (i = n) from decide_eq_decide.2 (by omega)]
  exact ⟨.inr rfl, .cl rfl⟩
end Go.Proofs.Ythacglggkgmbhaa
