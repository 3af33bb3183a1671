/- Facts and contracts that the claim uses. No condition of its own. -/
import Derived.Test.YtkmkcbkfakoomaaDoorGRingTextsBW
import Derived.RangeFuncLeaves
set_option linter.unusedVariables false
set_option linter.unusedSimpArgs false
namespace Go.Proofs.YtkmkcbkfakoomaaDoor
open Go.RowKit
theorem list_call {m : Nat} {ops : Array Oper} {n : Nat} {E : PV → Value → Prop} {w0 : World} {Z0 : Nat → Prop} {Q : Exit → Act → World → Prop} {ρ : Pl} {t : Nat → PV} {h : HP} {a : Act} {w : World} {l : List Oper} {d : Nat} {f : FuncId} {xs : Array Operand} {ats : Array TypeId} {ty : TypeId} {pos : String} {aft : Array Edge} {r : PV}
    (hd : d < n) (R : Rel E w0 Z0 ρ n ⟨t, h⟩ a w) (hc : Callable Tryd.prog f)
    (hs : ∀ Z vs, (∀ b, Z b → b < w.heap.size) → vs.size = xs.size → (∀ i x, xs[i]? = some x → V ρ Z w (evA t x) (vs.getD i undef)) → Calls Tryd.prog f vs w fun e w' => ∃ u, e = .returned u ∧ V (fun _ => none) Z w' r u ∧ Below w.heap.size w w')
    (hk : ∀ a' w', Rel E w0 Z0 ρ n ⟨upd t d r, h⟩ a' w' → Below w.heap.size w w' → wpListIn Fence.wide m Tryd.prog ops Q l a' w') :
    wpListIn Fence.wide m Tryd.prog ops Q (⟨some d, .call ⟨.value (.func f), xs, ats⟩, ty, pos, aft, none⟩ :: l) a w := by
  refine wpListIn_step (fun K hK => ?_)
  have hwt : Region.wanted (⟨some d, .call ⟨.value (.func f), xs, ats⟩, ty, pos, aft, none⟩ : Oper) (yielded ops a.tmps) = true := by simp only [Region.wanted]
  simp only [hwt, if_true]
  refine op_in okf_wide (fun _ hh => by cases hh) ?_
  unfold Oper.wp
  rw [run_call rfl hc]
  refine (hs (Zof Z0 ρ h) (xs.map a.eval) (fun b hb => R.heap.zlt b hb) (by simp) (fun i x hx => ?_)).mono ?_
  · have := R.ev x
    have e : (xs.map a.eval).getD i undef = a.eval x := by
      have hi : i < xs.size := by
        apply Classical.byContradiction; intro hc2
        rw [Array.getElem?_eq_none (by omega)] at hx; cases hx
      simp [Array.getD, hi]
      rw [Array.getElem?_eq_getElem hi] at hx
      rw [Option.some.inj hx]
    rw [e]; exact this
  · rintro e w' ⟨u, rfl, hv, hb⟩
    have H' : HRel w0 Z0 ρ h w' := R.heap.step hb
    have up : ∀ pv x, V ρ (Zof Z0 ρ h) w pv x → V ρ (Zof Z0 ρ h) w' pv x := fun pv x hx => hx.ext (Ext.of_below hb) (fun _ _ h => h) (fun _ _ h => h)
    refine hK _ _ (hk _ _ (R.put H' up (d := some d) (fun x hx => by cases hx; exact hd) (hv.ext (Ext.refl _ _) (fun _ _ h => h) (fun t p h => by cases h))) hb)
def E1 : PV → Value → Prop := fun _ _ => False
theorem CW.bseq {M : Hn} {n : Nat} {s : AS} {x y : Code} {N : AS → Prop} {Q : Exit → Act → World → Prop} {E : PV → Value → Prop} {w0 : World} {Z0 : Nat → Prop} {ρ : Pl} {a : Act} {w : World} (hc : codeOk M n x = true) (R : Rel E w0 Z0 ρ n s a w)
    (hx : CW Tryd.prog TT M n x s (fun e s' => e = .normal ∧ N s')) (hy : ∀ ρ' s' a' w', Rel E w0 Z0 ρ' n s' a' w' → N s' → y.wpIn Fence.wide 9 Tryd.prog Q a' w') : (Code.seq x y).wpIn Fence.wide 9 Tryd.prog Q a w :=
  wpIn_seq (wpIn_mono (hx.out tok mixed hc E w0 Z0 ρ a w R Fence.wide okf_wide 9) (by rintro e a' w' ⟨ρ', s', h1, rfl, h2⟩; exact hy ρ' s' a' w' h1 h2))
theorem CW.fin {M : Hn} {fn : Func} {n : Nat} {y : Code} {s : AS} {r : PV} {w0 : World} {Z0 : Nat → Prop} {ρ : Pl} {a : Act} {w : World} (hc : codeOk M n y = true) (R : Rel E1 w0 Z0 ρ n s a w)
    (hy : CW Tryd.prog TT M n y s (fun e s' => (e = .normal ∨ e = .ret) ∧ FzRes TT s' fn.results.toList r)) :
    y.wpIn Fence.wide 9 Tryd.prog (bodyPostM Fence.wide 9 Tryd.prog fn (fun e w' => ∃ u, e = .returned u ∧ V (fun _ => none) Z0 w' r u ∧ Below w0.heap.size w0 w')) a w := by
  refine wpIn_mono (hy.out tok mixed hc E1 w0 Z0 ρ a w R Fence.wide okf_wide 9) ?_
  rintro e a' w' ⟨ρ', s', R', he, hf⟩
  obtain ⟨u, q1, q2⟩ := FzRes.out tok R' hf
  have hd := R'.defers
  have hb := R'.heap.below
  obtain ⟨ts, ds⟩ := a'
  simp only at hd
  subst hd
  rcases he with rfl | rfl
  · exact ⟨u, q1, u, rfl, q2, hb⟩
  · exact ⟨u, q1, u, rfl, q2, hb⟩
theorem Calls.ofB {f : FuncId} {fn : Func} {c : Code} {args : List PV} {r : PV} {Z : Nat → Prop} {w : World} {vs : Array Value} (hf : Tryd.prog.funcs[f]? = some fn) (hb : fn.body = some c) (hk : Nat.ble args.length fn.ntmps = true) (hz : ∀ b, Z b → b < w.heap.size) (hvs : vs.size = args.length)
    (hv : ∀ i, i < args.length → V (fun _ => none) Z w (args.getD i .junk) (vs.getD i undef))
    (h : ∀ a, Rel E1 w Z (fun _ => none) fn.ntmps ⟨updL args 0 jk, H0⟩ a w → c.wpIn Fence.wide 9 Tryd.prog (bodyPostM Fence.wide 9 Tryd.prog fn (fun e w' => ∃ u, e = .returned u ∧ V (fun _ => none) Z w' r u ∧ Below w.heap.size w w')) a w) :
    Calls Tryd.prog f vs w fun e w' => ∃ u, e = .returned u ∧ V (fun _ => none) Z w' r u ∧ Below w.heap.size w w' := by
  have hk := Nat.le_of_ble_eq_true hk
  have eT : updL args 0 jk = fun t => args.getD t .junk := by
    funext x
    have := argT_eq args 0 x
    rw [Nat.zero_add] at this
    exact this
  have R : Rel E1 w Z (fun _ => none) fn.ntmps ⟨updL args 0 jk, H0⟩ { tmps := vs ++ Array.replicate (fn.ntmps - vs.size) undef, defers := [] } w := by
    rw [eT]
    refine ⟨rfl, by simp; omega, fun t => ?_, ⟨Below.refl _ _, hz, fun t cs h => (by cases h), fun t t' cs cs' b o o' h => (by cases h), fun t _ => ⟨rfl, rfl⟩, fun t c h => (by cases h), fun t t' c c' b h => (by cases h), fun t h => (by cases h)⟩, fun _ _ h => h.elim⟩
    by_cases ht : t < args.length
    · have e1 : (vs ++ Array.replicate (fn.ntmps - vs.size) undef).getD t undef = vs.getD t undef := by
        simp [Array.getElem?_append_left (show t < vs.size by omega)]
      rw [e1]
      exact (hv t ht).mono (fun b _ hb => by
        rcases hb with hb | ⟨t, cs, o, h1, h2⟩ | ⟨t, cs, h1, h2⟩
        · exact hb
        · cases h2
        · cases h2)
    · have e1 : args.getD t .junk = .junk := by simp [List.getD, show args.length ≤ t by omega]
      show V _ _ _ (args.getD t .junk) _
      rw [e1]; exact .junk _
  exact (callsIn_wide (n := 9)).1 (callsIn_of_wp_marks hf hb trivial (h _ R))
theorem list_go {M : Hn} {n m : Nat} {ops : Array Oper} {l : List Oper} {s : AS} {Kx : AS → Prop} {Q : Exit → Act → World → Prop} {w0 : World} {Z0 : Nat → Prop} {ρ : Pl} {a : Act} {w : World} (hd : dstOk n l = true) (R : Rel E1 w0 Z0 ρ n s a w)
    (h : AW Tryd.prog TT M (fun _ => .wr) ops l s Kx) (hQ : ∀ ρ' s' a' w', Rel E1 w0 Z0 ρ' n s' a' w' → Kx s' → Q .normal a' w') : wpListIn Fence.wide m Tryd.prog ops Q l a w :=
  AD_list okf_wide tok Kx hQ l ρ s a w hd h.out R
end Go.Proofs.YtkmkcbkfakoomaaDoor
