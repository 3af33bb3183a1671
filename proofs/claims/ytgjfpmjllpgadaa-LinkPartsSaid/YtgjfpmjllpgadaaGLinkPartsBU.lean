/- timbref1.Linked: the component of a strand. No condition of its own. -/
import Derived.Test.YtgjfpmjllpgadaaGLinkPartsBM
import Derived.Test.YtgjfpmjllpgadaaGLinkPartsBS
import Derived.Test.YtgjfpmjllpgadaaGLinkPartsBT
set_option linter.unusedVariables false
set_option linter.unusedSimpArgs false
namespace Go.Proofs.Ytgjfpmjllpgadaa
open Go.RowKit

set_option maxHeartbeats 4000000 in
set_option maxRecDepth 100000 in
theorem ixfz_s {ms : List (List Int)} {f : FuncId} {cap : List PV} (hx : ms.length ≤ 1000000) (hcl : PV.cl.clL cap = true) {m : Nat} (hm : m < ms.length) (h : ∀ k, k < m → SC Try.prog f (pli (ms.getD k []) :: cap) (.sc (.bool false))) (h2 : SC Try.prog f (pli (ms.getD m []) :: cap) (.sc (.bool true))) : SC Try.prog 92 [plls ms, .clo f cap] (pint m) := by
  refine SC.go {} tok mixed Try.func92 rfl rfl Try.ntmps92 rfl rfl (by kernel_rfl) ?_
  first | simp only [updS] | simp only [updL, Nat.reduceAdd]
  repeat (first | refine S0 ?_ | refine S1 ?_ | refine S2 ?_ | refine S4 ?_ | refine S5 ?_ | refine S7 ?_ | refine S8 ?_ | refine S9 ?_ | refine S11 ?_ | refine S12 ?_ | refine S15 ?_ | refine S16 ?_ | refine S19 ?_ | refine S20 ?_ | refine S21 ?_ | refine S22 ?_ | refine S23 ?_ | refine S25 ?_ | refine S26 ?_ | refine S56 ?_ | refine S73 ?_)
  refine CW.loopS (fun k : Nat => k ≤ m) (fun k => [(0, plls ms), (1, .clo f cap), (7, pint ms.length), (8, pint k)]) (fun _ _ => True) (fun k => ms.length - k) 0 ⟨by omega, SLx, trivial⟩ ?_
  rintro k t hp hk _
  first | simp only [updS] | simp only [updL, Nat.reduceAdd]
  by_cases hk2 : k < m
  · have hs := h k hk2
    repeat (first | refine S0 ?_ | refine S1 ?_ | refine S2 ?_ | refine S4 ?_ | refine S5 ?_ | refine S7 ?_ | refine S8 ?_ | refine S9 ?_ | refine S11 ?_ | refine S12 ?_ | refine S15 ?_ | refine S16 ?_ | refine S19 ?_ | refine S20 ?_ | refine S21 ?_ | refine S22 ?_ | refine S23 ?_ | refine S25 ?_ | refine S26 ?_ | refine S56 ?_ | refine S73 ?_)
    refine Scallv (args := pli (ms.getD k []) :: cap) hs ?_ (hc := by simp only [PV.cl.clL, pli_cl, hcl, Bool.and_self])
    repeat (first | refine S0 ?_ | refine S1 ?_ | refine S2 ?_ | refine S4 ?_ | refine S5 ?_ | refine S7 ?_ | refine S8 ?_ | refine S9 ?_ | refine S11 ?_ | refine S12 ?_ | refine S15 ?_ | refine S16 ?_ | refine S19 ?_ | refine S20 ?_ | refine S21 ?_ | refine S22 ?_ | refine S23 ?_ | refine S25 ?_ | refine S26 ?_ | refine S56 ?_ | refine S73 ?_)
    exact ⟨k + 1, by omega, SLx, trivial, by omega⟩
  · obtain rfl : k = m := by omega
    repeat (first | refine S0 ?_ | refine S1 ?_ | refine S2 ?_ | refine S4 ?_ | refine S5 ?_ | refine S7 ?_ | refine S8 ?_ | refine S9 ?_ | refine S11 ?_ | refine S12 ?_ | refine S15 ?_ | refine S16 ?_ | refine S19 ?_ | refine S20 ?_ | refine S21 ?_ | refine S22 ?_ | refine S23 ?_ | refine S25 ?_ | refine S26 ?_ | refine S56 ?_ | refine S73 ?_)
    refine Scallv (args := pli (ms.getD k []) :: cap) h2 ?_ (hc := by simp only [PV.cl.clL, pli_cl, hcl, Bool.and_self])
    repeat (first | refine S0 ?_ | refine S1 ?_ | refine S2 ?_ | refine S4 ?_ | refine S5 ?_ | refine S7 ?_ | refine S8 ?_ | refine S9 ?_ | refine S11 ?_ | refine S12 ?_ | refine S15 ?_ | refine S16 ?_ | refine S19 ?_ | refine S20 ?_ | refine S21 ?_ | refine S22 ?_ | refine S23 ?_ | refine S25 ?_ | refine S26 ?_ | refine S56 ?_ | refine S73 ?_)
    exact ⟨.inr rfl, .cl rfl⟩
set_option maxHeartbeats 4000000 in
set_option maxRecDepth 100000 in
theorem linked11_s {l : List Int} (x : Int) (hl : l.length ≤ 1000000) : SC Try.prog 96 [pli l, .lptr [pint x]] (.sc (.bool (decide (x ∈ l)))) := by
  have k := contains_x (xs := l) (x := x) hl
  refine SC.go {} tok mixed Try.func96 rfl rfl Try.ntmps96 rfl rfl (by kernel_rfl) ?_
  first | simp only [updS] | simp only [updL, Nat.reduceAdd]
  repeat (first | refine S0 ?_ | refine S1 ?_ | refine S2 ?_ | refine S4 ?_ | refine S5 ?_ | refine S7 ?_ | refine S8 ?_ | refine S9 ?_ | refine S11 ?_ | refine S12 ?_ | refine S15 ?_ | refine S16 ?_ | refine S19 ?_ | refine S20 ?_ | refine S21 ?_ | refine S22 ?_ | refine S23 ?_ | refine S25 ?_ | refine S26 ?_ | refine S56 ?_ | refine S73 ?_)
  refine Scall (args := [pli l, pint x]) k ?_
  repeat (first | refine S0 ?_ | refine S1 ?_ | refine S2 ?_ | refine S4 ?_ | refine S5 ?_ | refine S7 ?_ | refine S8 ?_ | refine S9 ?_ | refine S11 ?_ | refine S12 ?_ | refine S15 ?_ | refine S16 ?_ | refine S19 ?_ | refine S20 ?_ | refine S21 ?_ | refine S22 ?_ | refine S23 ?_ | refine S25 ?_ | refine S26 ?_ | refine S56 ?_ | refine S73 ?_)
  exact ⟨.inr rfl, .cl rfl⟩
set_option maxHeartbeats 4000000 in
set_option maxRecDepth 100000 in
theorem linked1_s {f : Nat → Nat} {n x : Nat} (hn : n ≤ 6) (hx : x < n) : SC Try.prog 95 [pint x, .lptr [plls (cmpK f n n)]] (pint (ofN f n x)) := by
  have hlen := cmpK_len f n n
  have ho : ofN f n x < (cmpK f n n).length := by rw [cmp_len]; exact (ofN_spec hx).1
  have hl := fun k (h : k < (cmpK f n n).length) => cmp_lens h
  have k := ixfz_s (ms := cmpK f n n) (f := 96) (cap := [.lptr [pint x]]) (by omega) rfl ho (fun k hk => by
    have e : decide ((x : Int) ∈ (cmpK f n n).getD k []) = false := decide_eq_false (fun hm => by
      obtain ⟨z, h1, h2, h3⟩ := (cmp_mem (by omega)).1 hm
      obtain rfl : x = z := by omega
      omega)
    rw [← e]
    exact linked11_s x (by have := hl k (by omega); omega)) (by
    have e : decide ((x : Int) ∈ (cmpK f n n).getD (ofN f n x) []) = true := decide_eq_true ((cmp_mem ho).2 ⟨x, rfl, hx, rfl⟩)
    rw [← e]
    exact linked11_s x (by have := hl _ ho; omega))
  generalize ofN f n x = o at *
  refine SC.go {} tok mixed Try.func95 rfl rfl Try.ntmps95 rfl rfl (by kernel_rfl) ?_
  first | simp only [updS] | simp only [updL, Nat.reduceAdd]
  repeat (first | refine S0 ?_ | refine S1 ?_ | refine S2 ?_ | refine S4 ?_ | refine S5 ?_ | refine S7 ?_ | refine S8 ?_ | refine S9 ?_ | refine S11 ?_ | refine S12 ?_ | refine S15 ?_ | refine S16 ?_ | refine S19 ?_ | refine S20 ?_ | refine S21 ?_ | refine S22 ?_ | refine S23 ?_ | refine S25 ?_ | refine S26 ?_ | refine S56 ?_ | refine S73 ?_)
  refine Scall (args := [plls (cmpK f n n), .clo 96 [.lptr [pint x]]]) k ?_
  repeat (first | refine S0 ?_ | refine S1 ?_ | refine S2 ?_ | refine S4 ?_ | refine S5 ?_ | refine S7 ?_ | refine S8 ?_ | refine S9 ?_ | refine S11 ?_ | refine S12 ?_ | refine S15 ?_ | refine S16 ?_ | refine S19 ?_ | refine S20 ?_ | refine S21 ?_ | refine S22 ?_ | refine S23 ?_ | refine S25 ?_ | refine S26 ?_ | refine S56 ?_ | refine S73 ?_)
  exact ⟨.inr rfl, .cl rfl⟩
end Go.Proofs.Ytgjfpmjllpgadaa
