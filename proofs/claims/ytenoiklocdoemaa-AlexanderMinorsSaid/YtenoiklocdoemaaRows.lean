/-
  No cell of these rows narrows 'for every input' (looked for: loops, veiled, ifaces, maps, wideKeys, modest, calm, conditions, laid).
  DERIVED. THE GIVEN ROWS OF THIS SEAT. 3 by the template 'for every input the law returns true; each argument reads behind the call as it read before'; 0 by the template 'total and deterministic' (their statements: YtenoiklocdoemaaTotals.lean).
  GIVEN WITH THE SEED: the statements are not yours to turn. If you find one false, say at which input.
  Laid BY PROGRAM, IN A SANDBOX (cutbox-rows.mjs): the forced cells as the released guide's own fill.sh prints them over the translation f31335d23ec8a07d… (all of the seat's roots in one cut). By AI agents, Wed Nov 11 2026. No macro, syntax, notation, axiom, sorry.
-/
import Derived.Test.YtenoiklocdoemaaChecked
import GoSem.Claim
import GoSem.ClaimJoined
import GoSem.ClaimMapViews
import Derived.JoinedTies
import Derived.KernelRfl
namespace Go.Proofs.Ytenoiklocdoemaa
/- THE CELL 'sum', in the pinned program and in every row, IS THE sha256 OF THE DUMP (.gsa) THAT YtenoiklocdoemaaProg.lean LOADS. Nothing in Lean hashes anything: it is a label: what it is worth is what the hold of that sum in a sandbox is worth. -/
noncomputable def Try.pinned : Pinned := { name := "ytenoiklocdoemaa", sum := "f31335d23ec8a07d55bdfc3c14f8318c070ca830b034bb92fdd5bc09e1aec713", checked := Try.checked }
namespace Rows
def none {H : Type} : Left H := { results := [], args := [] }

/-- 'timblaw1.BraidBuraus': WHATEVER THE INPUT: true; the input reads as it did. -/
def braidBurausSpec : ChangeSpec := { name := "braidBuraus", fn := fun _ => fun
  | [d1, d2] => { results := [.lit (.bool true)], args := [d1, d2] }
  | _ => none }
def braidBurausRow : OpenClaim := { program := "ytenoiklocdoemaa", sum := "f31335d23ec8a07d55bdfc3c14f8318c070ca830b034bb92fdd5bc09e1aec713", func := "timbrel/timblaw1.BraidBuraus", spec := "braidBuraus", unfollowed := true, recurses := true, apart := false }
def BraidBurausSaid : Prop := braidBurausRow.holds Try.pinned (OpenSpec.ofChange braidBurausSpec)

/-- ITS FALSE NEIGHBOUR: 'it returns false'. Refute it at one input. -/
def braidBurausWrong : ChangeSpec := { name := "braidBuraus", fn := fun _ => fun
  | [d1, d2] => { results := [.lit (.bool false)], args := [d1, d2] }
  | _ => none }
def BraidBurausWrongFalsely : Prop := braidBurausRow.holds Try.pinned (OpenSpec.ofChange braidBurausWrong)

/-- 'timbtop.TopBurauDet': WHATEVER THE INPUT: true; the input reads as it did. -/
def topBurauDetSpec : ChangeSpec := { name := "topBurauDet", fn := fun _ => fun
  | [d1, d2] => { results := [.lit (.bool true)], args := [d1, d2] }
  | _ => none }
def topBurauDetRow : OpenClaim := { program := "ytenoiklocdoemaa", sum := "f31335d23ec8a07d55bdfc3c14f8318c070ca830b034bb92fdd5bc09e1aec713", func := "timbrel/timbtop.TopBurauDet", spec := "topBurauDet", unfollowed := true, recurses := true, apart := false }
def TopBurauDetSaid : Prop := topBurauDetRow.holds Try.pinned (OpenSpec.ofChange topBurauDetSpec)

/-- ITS FALSE NEIGHBOUR: 'it returns false'. Refute it at one input. -/
def topBurauDetWrong : ChangeSpec := { name := "topBurauDet", fn := fun _ => fun
  | [d1, d2] => { results := [.lit (.bool false)], args := [d1, d2] }
  | _ => none }
def TopBurauDetWrongFalsely : Prop := topBurauDetRow.holds Try.pinned (OpenSpec.ofChange topBurauDetWrong)

/-- 'timblaw1.AlexanderMinors': WHATEVER THE INPUT: true; the input reads as it did. -/
def alexanderMinorsSpec : ChangeSpec := { name := "alexanderMinors", fn := fun _ => fun
  | [d1, d2] => { results := [.lit (.bool true)], args := [d1, d2] }
  | _ => none }
def alexanderMinorsRow : OpenClaim := { program := "ytenoiklocdoemaa", sum := "f31335d23ec8a07d55bdfc3c14f8318c070ca830b034bb92fdd5bc09e1aec713", func := "timbrel/timblaw1.AlexanderMinors", spec := "alexanderMinors", unfollowed := true, recurses := true, apart := false }
def AlexanderMinorsSaid : Prop := alexanderMinorsRow.holds Try.pinned (OpenSpec.ofChange alexanderMinorsSpec)

/-- ITS FALSE NEIGHBOUR: 'it returns false'. Refute it at one input. -/
def alexanderMinorsWrong : ChangeSpec := { name := "alexanderMinors", fn := fun _ => fun
  | [d1, d2] => { results := [.lit (.bool false)], args := [d1, d2] }
  | _ => none }
def AlexanderMinorsWrongFalsely : Prop := alexanderMinorsRow.holds Try.pinned (OpenSpec.ofChange alexanderMinorsWrong)

/- THE SECOND FORM. 'bulk': how many values and letters a reading holds, each counted each time it is reached (what is shared counts as often as it is met; a slice's spare places count too). A statement '..UptoSaid' is the law's where the arguments, and the package variables that the reading takes, are together of bulk at most 1048576: NARROWER than '..Said'. Prove '..Said' where nothing that the law and all that it calls make is longer than what came in: it says more and counts as full. Else prove '..UptoSaid'. A law counts once. -/
mutual
def uptoBulk {H : Type} : DataW H → Nat
  | .lit (.string bytes) => bytes.length + 1
  | .lit _ => 1
  | .nil => 1
  | .ptr d => uptoBulk d + 1
  | .slice elems spare => uptoBulkAll elems + uptoBulkAll spare + 1
  | .agg parts => uptoBulkAll parts + 1
  | .iface _ d => uptoBulk d + 1
  | .map entries => uptoBulkEntries entries + 1
  | .held _ => 1
def uptoBulkAll {H : Type} : List (DataW H) → Nat
  | [] => 0
  | d :: r => uptoBulk d + uptoBulkAll r
def uptoBulkEntries {H : Type} : List (Lit × DataW H) → Nat
  | [] => 0
  | x :: r => uptoBulkEntry x + uptoBulkEntries r
def uptoBulkEntry {H : Type} : Lit × DataW H → Nat
  | (.string bytes, d) => bytes.length + uptoBulk d + 1
  | (_, d) => uptoBulk d + 1
 end
def uptoSmall : (H : Type) → List (DataW H) → Bool := fun _ ds => decide (uptoBulkAll ds ≤ 1048576)
def OpenSpec.upto (s : _root_.Go.ChangeSpec) : _root_.Go.OpenSpec := { _root_.Go.OpenSpec.ofChange s with cond := some uptoSmall }

/-- 'timblaw1.BraidBuraus', WHERE WHAT IT READS IS OF BULK AT MOST 1048576: true; the input reads as it did. -/
def braidBurausUptoRow : OpenClaim := { program := "ytenoiklocdoemaa", sum := "f31335d23ec8a07d55bdfc3c14f8318c070ca830b034bb92fdd5bc09e1aec713", func := "timbrel/timblaw1.BraidBuraus", spec := "braidBuraus", unfollowed := true, recurses := true, apart := false, narrowed := true }
def BraidBurausUptoSaid : Prop := braidBurausUptoRow.holds Try.pinned (OpenSpec.upto braidBurausSpec)

/-- 'timbtop.TopBurauDet', WHERE WHAT IT READS IS OF BULK AT MOST 1048576: true; the input reads as it did. -/
def topBurauDetUptoRow : OpenClaim := { program := "ytenoiklocdoemaa", sum := "f31335d23ec8a07d55bdfc3c14f8318c070ca830b034bb92fdd5bc09e1aec713", func := "timbrel/timbtop.TopBurauDet", spec := "topBurauDet", unfollowed := true, recurses := true, apart := false, narrowed := true }
def TopBurauDetUptoSaid : Prop := topBurauDetUptoRow.holds Try.pinned (OpenSpec.upto topBurauDetSpec)

/-- 'timblaw1.AlexanderMinors', WHERE WHAT IT READS IS OF BULK AT MOST 1048576: true; the input reads as it did. -/
def alexanderMinorsUptoRow : OpenClaim := { program := "ytenoiklocdoemaa", sum := "f31335d23ec8a07d55bdfc3c14f8318c070ca830b034bb92fdd5bc09e1aec713", func := "timbrel/timblaw1.AlexanderMinors", spec := "alexanderMinors", unfollowed := true, recurses := true, apart := false, narrowed := true }
def AlexanderMinorsUptoSaid : Prop := alexanderMinorsUptoRow.holds Try.pinned (OpenSpec.upto alexanderMinorsSpec)

end Rows
end Go.Proofs.Ytenoiklocdoemaa
