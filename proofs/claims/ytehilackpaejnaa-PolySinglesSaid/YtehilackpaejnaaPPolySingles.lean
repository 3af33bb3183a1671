/- Proved: the statement Rows.PolySinglesSaid: the Go function timblaw1.PolySingles returns true for every input and leaves its arguments as they were; no condition. -/
import Derived.Test.YtehilackpaejnaaRows
import Derived.Test.YtehilackpaejnaaSingC
import Derived.Test.YtehilackpaejnaaSlice
import Derived.WalkKit
import Derived.ProofKit
import Derived.OpenShut
import Derived.ShutString
import Derived.ChangeOld
import Derived.Below
import Derived.Lib.SmallJoins
namespace Go.Proofs.Ytehilackpaejnaa.polySingles
open Go.ChangeShapes Go.WideShapes Go.ChangeAt Go.RowKit Go.Joins
set_option linter.unusedVariables false

theorem own : ownKnob Try.prog.godebug = none := by kernel_rfl
theorem laidOut : laidOutB Try.prog = true := by kernel_rfl

def IsRow (k : IntKind) (w : World) (a : Option Addr) (len cap : Nat) (zs : List Int) : Prop :=
  (a = none ∧ len = 0 ∧ cap = 0 ∧ zs = []) ∨
  ∃ x, a = some x ∧ len ≤ cap ∧ cap ≤ maxLen ∧ zs.length = cap ∧ (∀ i, i < zs.length → w.cell? (x.add i) = some (.int k (zs.getD i 0))) ∧ ∀ n ∈ zs, (Lit.int k n).wf = true

theorem walk (l0 : Int) (a0 : Option Addr) (len0 cap0 : Nat) (z0 : List Int) (a1 : Int) (w : World) (w0 : IsRow .i64 w a0 len0 cap0 z0) (x0 : (Lit.int .i64 l0).wf = true) (w1 : (Lit.int .i64 a1).wf = true) :
    Calls Try.prog 5 #[.agg #[.int .i64 l0, .slice a0 len0 cap0], .int .i64 a1] w fun e w' => e = .returned (.bool true) ∧ Below w.heap.size w w' := by
  have hp : ∀ (l : Int) (A : Option Addr) (cap : Nat) (zs : List Int), IsInts w A cap zs → V (fun _ => none) (fun _ => False) w (ppo (l, zs)) (.agg #[.int .i64 l, .slice A zs.length cap]) := fun l A cap zs h => .agg _ _ rfl (fun i hi => by
    match i, hi with
    | 0, _ => exact .sc _
    | 1, _ => exact V.of_ints h (fun _ _ _ _ hf => hf)
    | i + 2, hh => simp at hh; omega)
  obtain ⟨xs, rfl, h⟩ := ints_of_row w0
  by_cases hf : pF (l0, xs) = 0
  · refine (singles_ok (p := (l0, xs)) (x := a1) hf).law w _ rfl (fun i hi => ?_)
    match i, hi with
    | 0, _ => exact hp _ _ _ _ h
    | 1, _ => exact .sc _
    | i + 2, hh => simp at hh; omega
  · refine (singles_bad (p := (l0, xs)) (x := a1) hf).law w _ rfl (fun i hi => ?_)
    match i, hi with
    | 0, _ => exact hp _ _ _ _ h
    | 1, _ => exact .sc _
    | i + 2, hh => simp at hh; omega

set_option maxRecDepth 100000 in
theorem lifted (os : Os) (started : os.Started) (H : Type) (enc : TypeId × Value → H) :
    ReturnsInHanded {} Try.checked os 5 .any (Rows.polySinglesSpec.pre6 enc Try.prog Try.f5 Rows.polySinglesRow.domain false) (Rows.polySinglesSpec.post enc Try.prog Try.f5 false true false false) := by
  refine returnsInHanded_of_change (C := Try.checked) own started (by kernel_rfl) Try.func5
    (ChangeSpec.witness6 (enc := enc) (C := Try.checked) false ⟨#[], #[.agg #[.int .i64 0, .slice none 0 0], .int .i64 0], []⟩ 8 (by kernel_rfl) (by kernel_rfl) (by kernel_rfl) (by kernel_rfl)) ?_
  intro W base args ds gs before hval0 hW hcnd _
  have hval : ∀ (j : Nat) t v, Try.f5.params[j]? = some t → args[j]? = some v → Value.okWide Try.prog W .any base t v := hval0
  have hW' := hW
  obtain ⟨p, q, hA0, hV, rfl, hfz, hnd⟩ := hW
  have hA : DataW.TrodAll enc Try.prog W 0 (fun _ => true) true Try.f5.params.toList args.toList ds p := hA0
  rw [Try.params5] at hA hval
  obtain ⟨v0, vs0, d0, ds0, p0, q0, hargs, rfl, rfl, h0, r0⟩ := trodAll_cons hA
  obtain ⟨v1, vs1, d1, ds1, p1, q1, rfl, rfl, rfl, h1, r1⟩ := trodAll_cons r0
  obtain ⟨rfl, rfl, rfl⟩ := trodAll_nil r1
  obtain rfl : args = #[v0, v1] := by cases args; simp_all
  obtain ⟨rfl, rfl⟩ := trodVars_none hV
  have k0 := h0
  have lt0 : ∀ x ∈ p0, x.block < W.heap.size := by obtain ⟨m, hm⟩ := k0; exact DataW.trod_lt m _ _ _ hm
  have k1 := h1
  have lt1 : ∀ x ∈ p1, x.block < W.heap.size := by obtain ⟨m, hm⟩ := k1; exact DataW.trod_lt m _ _ _ hm
  obtain ⟨l0, a0, len0, cap0, z0, w0, x0, rfl⟩ : ∃ (l : Int) (a : Option Addr) (len cap : Nat) (zs : List Int), IsRow .i64 W a len cap zs ∧ (Lit.int .i64 l).wf = true ∧ v0 = .agg #[.int .i64 l, .slice a len cap] := by
    obtain ⟨c0, c1, y0, y1, m, rfl, _, _, hy0, hy1⟩ := open_agg2 Try.underlying24 (by kernel_rfl) (by kernel_rfl) (hval 0 24 v0 rfl rfl) h0
    obtain ⟨l, e0, _, wa⟩ := DataW.trod_int Try.underlying3 hy0
    simp at e0
    subst e0
    rcases open_ints Try.underlying22 Try.underlying3 (by kernel_rfl) hy1 with ⟨hcs, _⟩ | ⟨x, ln, c, zs, hcs, _, hl, hm, hz, _, hcell, hwz⟩
    · simp at hcs
      subst hcs
      exact ⟨l, none, 0, 0, [], .inl ⟨rfl, rfl, rfl, rfl⟩, wa, rfl⟩
    · simp at hcs
      subst hcs
      exact ⟨l, some x, ln, c, zs, .inr ⟨_, rfl, hl, hm, by simpa using hz, hcell, hwz⟩, wa, rfl⟩
  obtain ⟨a1, rfl, rfl, rfl, w1⟩ := open_int Try.underlying3 (hval 1 3 v1 rfl rfl) h1
  clear hA0 hval0
  refine (walk l0 a0 len0 cap0 z0 a1 W w0 x0 w1).mono fun e W' ⟨he, bel⟩ => ?_
  subst he
  exact ⟨_, rfl, _, _, _, [], _, [], hW', trodAll_mk1 (shut_bool Try.underlying4 _), (trodAll_cons_mk (Below.trod laidOut (by kernel_rfl) (of_decide_eq_true (by kernel_rfl)) k0 bel lt0) (trodAll_cons_mk (Below.trod laidOut (by kernel_rfl) (of_decide_eq_true (by kernel_rfl)) k1 bel lt1) trodAll_mk0)), rfl, bel.frame _, fun h => by cases h⟩

theorem proved : Rows.PolySinglesSaid :=
  OpenClaim.holds_of_wide 5 Try.f5 rfl rfl rfl rfl rfl rfl rfl ⟨rfl, rfl, rfl, rfl, rfl⟩ rfl rfl rfl rfl rfl (by kernel_rfl) Try.func5 (by kernel_rfl)
    (of_decide_eq_true (by kernel_rfl)) (by unfold Func.isWrapper; first | (rw [if_pos (by decide +kernel)]; kernel_rfl) | (rw [if_neg (by decide +kernel)]; exact ⟨rfl, rfl⟩))
    (fun os started H enc _ => lifted os started H enc)
#print axioms proved
end Go.Proofs.Ytehilackpaejnaa.polySingles
