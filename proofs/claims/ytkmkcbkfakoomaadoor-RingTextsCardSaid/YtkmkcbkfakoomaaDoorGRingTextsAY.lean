/- Facts and contracts that the claim uses. No condition of its own. -/
import Derived.Test.YtkmkcbkfakoomaaDoorGRingTextsAV
import Derived.Test.YtkmkcbkfakoomaaDoorGRingTextsAA
set_option linter.unusedVariables false
set_option linter.unusedSimpArgs false
namespace Go.Proofs.YtkmkcbkfakoomaaDoor
open Go.RowKit
theorem callable {P : Program} {f : FuncId} {fn : Func} (h : P.funcs[f]? = some fn) (h1 : (fn.name == "runtime.NumGoroutine") = false) (h2 : fn.body.isNone = false) : Callable P f := ⟨fn, h, h1, h2⟩
theorem V.isInts {ρ : Pl} {Z : Nat → Prop} {w : World} {c : Bool} {xs : List Int} {u : Value} (hv : V ρ Z w (.lst c 1 xs.length (ints xs)) u) (hb : ∀ x ∈ xs, in64 x) : ∃ A cap, u = .slice A xs.length cap ∧ IsInts w A cap xs := by
  obtain ⟨cap, A, f, rfl, g1, g2, g3, g4, g5, g6⟩ := hv.lst_inv
  unfold maxLen at g3
  refine ⟨A, cap, rfl, ⟨g1, by omega, fun i hi => hb _ (by rw [getD_lt 0 hi]; exact List.getElem_mem hi), fun hx => ?_⟩⟩
  have hne : ints xs ≠ [] := by intro e; have := congrArg List.length e; simp at this; exact hx this
  obtain ⟨b, o, rfl, hz, hlt, hc⟩ := g5 hne
  refine ⟨b, o, rfl, hlt, fun i hi => ?_⟩
  have h1 := hc i (by simpa using hi)
  have h2 := g6 i (by simpa using hi)
  rw [getD_of (ints_at hi)] at h2
  rw [h1, h2.sc_inv]
theorem V.of_ints {Z : Nat → Prop} {ρ : Pl} {w : World} {A : Option Addr} {cap : Nat} {xs : List Int} (h : IsInts w A cap xs) (hz : ∀ b o, xs ≠ [] → A = some ⟨b, o, none⟩ → ¬ Z b) : V ρ Z w (pli xs) (.slice A xs.length cap) := by
  refine .lst _ _ _ _ _ _ (fun i => .int .i64 (xs.getD i 0)) h.len (fun hh => by cases hh) (by have := h.cap_le; unfold maxLen; omega) (by simp) (fun hne => ?_) (fun i hi => ?_)
  · have hx : xs ≠ [] := by rintro rfl; exact hne rfl
    obtain ⟨b, o, rfl, hb, hc⟩ := h.row hx
    exact ⟨b, o, rfl, hz b o hx rfl, hb, fun i hi => hc i (by simpa using hi)⟩
  · rw [getD_of (ints_at (by simpa using hi))]; exact .sc _
theorem SC.flat {P : Program} {f : FuncId} {args : List Value} {r : Value} (hc : Callable P f) (h : ∀ w, Calls P f args.toArray w fun e w' => e = .returned r ∧ Below w.heap.size w w') : SC P f (args.map .sc) (.sc r) := by
  refine ⟨hc, fun Z w vs hz hl hv => ?_⟩
  have e : vs = args.toArray := by
    apply Array.ext
    · simp at hl; simp [hl]
    · intro i h1 h2
      have := hv i (by simp at h2; simpa using h2)
      have e1 : (args.map PV.sc).getD i .junk = .sc (args[i]'(by simpa using h2)) := by simp [List.getD, show i < args.length by simpa using h2]
      have e2 : vs.getD i undef = vs[i] := by simp [Array.getD, h1]
      rw [e1, e2] at this
      simp [this.sc_inv]
  rw [e]
  exact (h w).mono fun e w' ⟨h1, h2⟩ => ⟨_, h1, .sc _, h2⟩
def pfr (n d : Int) : PV := .agg [.sc (.int .i64 n), .sc (.int .i64 d)]
theorem pfr_cl (n d : Int) : (pfr n d).cl = true := rfl
theorem pint_cl (n : Int) : (pint n).cl = true := rfl
def ppo (p : Int × List Int) : PV := .agg [pint p.1, pli p.2]
theorem ppo_cl (p : Int × List Int) : (ppo p).cl = true := by simp only [ppo, PV.cl, PV.cl.clL, pint_cl, pli_cl, Bool.and_self]
end Go.Proofs.YtkmkcbkfakoomaaDoor
