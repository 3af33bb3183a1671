/- Proved: the statement Rows.RingTextsCardSaid: the Go function timblaw1.RingTexts returns true for every input and leaves its arguments as they were; the listed tables read as the program's text lays them, and the card ties that. No further condition. -/
import Derived.Test.YtkmkcbkfakoomaaDoorRows
import Derived.Test.YtkmkcbkfakoomaaDoorTie
import Derived.Test.YtkmkcbkfakoomaaDoorCards
import Derived.Test.YtkmkcbkfakoomaaDoorGRingTextsBZ
import Derived.WalkKit
import Derived.ProofKit
import Derived.OpenShut
import Derived.ShutString
import Derived.ChangeOld
import Derived.ChangeMaps5
import Derived.Below
import Derived.Lib.SmallJoins
import Derived.LaidMore
import Derived.Shelf.Vars
import Derived.SevenTiedAt
namespace Go.Proofs.YtkmkcbkfakoomaaDoor.ringTexts
open Go.ChangeShapes Go.WideShapes Go.ChangeAt Go.RowKit Go.Joins
set_option linter.unusedVariables false
theorem own : ownKnob Tryd.prog.godebug = none := by kernel_rfl
theorem laidOut : laidOutB Tryd.prog = true := by kernel_rfl
def laid5 : List (String × DataW Unit) := [("math/bits.deBruijn32tab", Rows.laid_math_bits_deBruijn32tab), ("math/bits.deBruijn64tab", Rows.laid_math_bits_deBruijn64tab), ("internal/strconv.uint64pow10", Rows.laid_internal_strconv_uint64pow10), ("unicode/utf8.acceptRanges", Rows.laid_unicode_utf8_acceptRanges), ("unicode/utf8.first", Rows.laid_unicode_utf8_first)]
def lit1 : DataW Unit → Value
  | .lit (.int k n) => .int k n
  | _ => undef
def cells1 : DataW Unit → List Value
  | .agg l => l.map lit1
  | _ => []
def cells2 : DataW Unit → List Value
  | .agg l => l.flatMap cells1
  | _ => []
def witOf (P : Program) (os : Os) : World :=
  { World.holding P os ⟨#[], #[], []⟩ with heap := (((((World.holding P os ⟨#[], #[], []⟩).heap.setIfInBounds 1 (.cells (cells1 Rows.laid_unicode_utf8_first).toArray 77 (0, 0))).setIfInBounds 2 (.cells (cells2 Rows.laid_unicode_utf8_acceptRanges).toArray 80 (0, 0))).setIfInBounds 3 (.cells (cells1 Rows.laid_internal_strconv_uint64pow10).toArray 82 (0, 0))).setIfInBounds 4 (.cells (cells1 Rows.laid_math_bits_deBruijn32tab).toArray 89 (0, 0))).setIfInBounds 5 (.cells (cells1 Rows.laid_math_bits_deBruijn64tab).toArray 90 (0, 0)) }
set_option maxRecDepth 100000 in
theorem wit_met (os : Os) (args : Array Value) : laidMetH Tryd.prog laid5 ((witOf Tryd.prog os).forCall (fun _ _ => 0) ⟨#[], args, []⟩).memory :=
  laidMetH_of_parts3 (fuel := 8) (laidMet_of_run' 8 (by kernel_rfl) (by kernel_rfl)) (by kernel_rfl) (by kernel_rfl)
def IsRow (k : IntKind) (w : World) (a : Option Addr) (len cap : Nat) (zs : List Int) : Prop :=
  (a = none ∧ len = 0 ∧ cap = 0 ∧ zs = []) ∨
  ∃ x, a = some x ∧ len ≤ cap ∧ cap ≤ maxLen ∧ zs.length = cap ∧ (∀ i, i < zs.length → w.cell? (x.add i) = some (.int k (zs.getD i 0))) ∧ ∀ n ∈ zs, (Lit.int k n).wf = true
theorem walk (a0 : Int) (a1 : Option Addr) (len1 cap1 : Nat) (z1 : List Int) (s : ByteArray) (w : World) (w1 : IsRow .i64 w a1 len1 cap1 z1) {m0 : Int} (hm : w.cell? ⟨0, 0, none⟩ = some (.int .i64 m0)) :
    Calls Tryd.prog 3 #[.int .i64 a0, .slice a1 len1 cap1, .string s] w fun e w' => e = .returned (.bool true) ∧ Below w.heap.size w w' := by
  obtain ⟨xs, rfl, h⟩ := ints_of_row w1
  have hs : s = bsB s.data.toList := by apply ByteArray.ext; simp [bsB]
  refine (ringTexts_c a0 xs s.data.toList (Z := fun _ => False) (fun _ hf => hf.elim) rfl (fun i hi => ?_) hm).mono fun e w' ⟨u, h1, h2, h3⟩ => ⟨by rw [h1, h2.sc_inv], h3⟩
  match i, hi with
  | 0, _ => exact .sc _
  | 1, _ => exact V.of_ints h (fun _ _ _ _ hf => hf)
  | 2, _ =>
    show V (fun _ => none) (fun _ => False) w (.sc (.string (bsB s.data.toList))) (.string s)
    rw [← hs]
    exact .sc _
  | i + 3, hh => omega
set_option maxRecDepth 100000 in
theorem lifted (os : Os) (started : os.Started) (H : Type) (enc : TypeId × Value → H) :
    ReturnsInHanded {} Tryd.checked os 3 .any (fun w args => (Rows.ringTextsSpec.pre enc Tryd.prog Tryd.f3 [] false w args ∧ laidMetH Tryd.prog laid5 w) ∧ sizedMet enc Tryd.prog Tryd.f3 (OpenSpec.ofChange Rows.ringTextsSpec) false w args)
      (Rows.ringTextsSpec.post enc Tryd.prog Tryd.f3 false true false false) := by
  refine returnsInHanded_of_calls (C := Tryd.checked) own started (by kernel_rfl)
    (ChangeSpec.witness_shaped (enc := enc) (C := Tryd.checked) (os := os) (X := fun w _ => laidMetH Tryd.prog laid5 w) false (witOf Tryd.prog os) #[.int .i64 0, .slice none 0 0, .string ⟨#[]⟩] 8 rfl (World.shaped_of_RefB (by kernel_rfl) (by kernel_rfl)) (by kernel_rfl) (by kernel_rfl) (by kernel_rfl) (wit_met os _)) ?_
  intro w tape i _ hsh _ hok hpre hholds
  obtain ⟨_, _, _, fn', hfn', _, _, _, _, hval0⟩ := hok
  obtain rfl : fn' = Tryd.f3 := Option.some.inj (hfn'.symm.trans Tryd.func3)
  obtain ⟨⟨⟨ds, gs, before, hw, hc⟩, hx⟩, hz⟩ := hpre
  have hW := DataW.Whole.of_heap (w' := w.forCall tape i) (by rfl) hw
  obtain ⟨m0, hm⟩ := cell_of_shapedOpen_int (g := 0) (t := 3) (zero := #[.int .i64 0]) (k := .i64) hsh (of_decide_eq_true (by kernel_rfl)) (by kernel_rfl) rfl (by kernel_rfl) (by kernel_rfl) Tryd.underlying3
  have key : Calls Tryd.prog 3 i.args (w.forCall tape i) fun e W' => ∃ v, e = .returned v ∧ Rows.ringTextsSpec.post enc Tryd.prog Tryd.f3 false true false false (w.forCall tape i) i.args v W' := by
    generalize w.forCall tape i = W at *
    generalize i.args = args at *
    have hval : ∀ (j : Nat) t v, Tryd.f3.params[j]? = some t → args[j]? = some v → Value.okWide Tryd.prog W .any _ t v := hval0
    have hW' := hW
    obtain ⟨p, q, hA0, hV, rfl, hfz, hnd⟩ := hW
    have hA : DataW.TrodAll enc Tryd.prog W 0 (fun _ => true) true Tryd.f3.params.toList args.toList ds p := hA0
    rw [Tryd.params3] at hA hval
    obtain ⟨v0, vs0, d0, ds0, p0, q0, hargs, rfl, rfl, g0, r0⟩ := trodAll_cons hA
    obtain ⟨v1, vs1, d1, ds1, p1, q1, rfl, rfl, rfl, g1, r1⟩ := trodAll_cons r0
    obtain ⟨v2, vs2, d2, ds2, p2, q2, rfl, rfl, rfl, g2, r2⟩ := trodAll_cons r1
    obtain ⟨rfl, rfl, rfl⟩ := trodAll_nil r2
    obtain rfl : args = #[v0, v1, v2] := by cases args; simp_all
    obtain ⟨rfl, rfl⟩ := trodVars_none hV
    have k0 := g0
    have lt0 : ∀ x ∈ p0, x.block < W.heap.size := by obtain ⟨m, hm⟩ := k0; exact DataW.trod_lt m _ _ _ hm
    have k1 := g1
    have lt1 : ∀ x ∈ p1, x.block < W.heap.size := by obtain ⟨m, hm⟩ := k1; exact DataW.trod_lt m _ _ _ hm
    have k2 := g2
    have lt2 : ∀ x ∈ p2, x.block < W.heap.size := by obtain ⟨m, hm⟩ := k2; exact DataW.trod_lt m _ _ _ hm
    obtain ⟨a0, rfl, rfl, rfl, w0⟩ := open_int Tryd.underlying3 (hval 0 3 v0 rfl rfl) g0
    obtain ⟨a1, len1, cap1, rfl⟩ := okWide_slice Tryd.underlying22 (hval 1 22 v1 rfl rfl)
    obtain ⟨z1, w1⟩ : ∃ zs, IsRow .i64 W a1 len1 cap1 zs := by
      obtain ⟨fuel, hf⟩ := g1
      rcases open_ints Tryd.underlying22 Tryd.underlying3 (by kernel_rfl) hf with ⟨hcs, _⟩ | ⟨x, l, c, zs, hcs, _, hl, hm, hz, _, hcell, hwz⟩
      · simp [Value.cells] at hcs
        obtain ⟨rfl, rfl, rfl⟩ := hcs
        exact ⟨[], .inl ⟨rfl, rfl, rfl, rfl⟩⟩
      · simp [Value.cells] at hcs
        obtain ⟨rfl, rfl, rfl⟩ := hcs
        exact ⟨zs, .inr ⟨_, rfl, hl, hm, by simpa using hz, hcell, hwz⟩⟩
    obtain ⟨s2, rfl, rfl, rfl, _⟩ := Go.ChangeMaps.open_string Tryd.underlying9 (hval 2 9 v2 rfl rfl) g2
    refine (walk a0 a1 len1 cap1 z1 s2 W w1 hm).mono fun e W' ⟨he, bel⟩ => ?_
    subst he
    exact ⟨_, rfl, _, _, _, [], _, [], hW', trodAll_mk1 (shut_bool Tryd.underlying4 _), (trodAll_cons_mk (Below.trod laidOut (by kernel_rfl) (of_decide_eq_true (by kernel_rfl)) k0 bel lt0) (trodAll_cons_mk (Below.trod laidOut (by kernel_rfl) (of_decide_eq_true (by kernel_rfl)) k1 bel lt1) (trodAll_cons_mk (Below.trod laidOut (by kernel_rfl) (of_decide_eq_true (by kernel_rfl)) k2 bel lt2) trodAll_mk0))), rfl, bel.frame _, fun h => by cases h⟩
  refine key.mono fun e W' ⟨v, he, hp⟩ => ?_
  subst he
  exact ChangeSpec.post_blind hp
theorem row : Rows.RingTextsSaid :=
  OpenClaim.holds_of_wide 3 Tryd.f3 rfl rfl rfl rfl rfl rfl rfl ⟨rfl, rfl, rfl, rfl, rfl⟩ rfl rfl rfl rfl rfl (by kernel_rfl) Tryd.func3 (by kernel_rfl)
    (of_decide_eq_true (by kernel_rfl)) (by unfold Func.isWrapper; first | (rw [if_pos (by decide +kernel)]; kernel_rfl) | (rw [if_neg (by decide +kernel)]; exact ⟨rfl, rfl⟩))
    (fun os started H enc _ => lifted os started H enc)
theorem proved : Rows.RingTextsCardSaid :=
  Claim7.holds_tied_plain_at .later [] [.data, .data, .data, .data, .pinned] true (true, "c3dc78d87960186e14ccd23b4bd5ea78575bf4d4fe6671cddbff8599e5653893") false
    row (fun _ h => by cases h) (by kernel_rfl) (fun _ h => by cases h) ringTexts_row_tie rfl ⟨rfl, rfl⟩ (by kernel_rfl) rfl
    (fun f fn hf hfn => by
      obtain rfl : f = 3 := Option.some.inj ((show Tryd.prog.funcNamed "timbrel/timblaw1.RingTexts" = some 3 by kernel_rfl).symm.trans hf) |>.symm
      obtain rfl : fn = Tryd.f3 := (Option.some.inj (Tryd.func3.symm.trans hfn)).symm
      exact ⟨by kernel_rfl, fun j t ht => by
        rw [Tryd.params3] at ht
        have hm : t ∈ [3, 22, 9] := by simpa using Array.mem_of_getElem? ht
        have hall : ([3, 22, 9].all fun u => !Tryd.prog.wantsStandIn u) = true := by kernel_rfl
        exact (show Tryd.prog.wantsStandIn t = false by simpa using List.all_eq_true.1 hall t hm)⟩)
    (by kernel_rfl)
#print axioms proved
end Go.Proofs.YtkmkcbkfakoomaaDoor.ringTexts
