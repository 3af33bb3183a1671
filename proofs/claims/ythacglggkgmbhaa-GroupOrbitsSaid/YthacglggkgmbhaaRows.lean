/-
  No cell of these rows narrows 'for every input' (looked for: loops, veiled, ifaces, maps, wideKeys, modest, calm, conditions, laid).
  DERIVED. THE GIVEN ROWS OF THIS SEAT. 3 by the template 'for every input the law returns true; each argument reads behind the call as it read before'; 0 by the template 'total and deterministic' (their statements: YthacglggkgmbhaaTotals.lean).
  GIVEN WITH THE SEED: the statements are not yours to turn. If you find one false, say at which input.
  Laid BY PROGRAM, IN A SANDBOX (cutbox-rows.mjs): the forced cells as the released guide's own fill.sh prints them over the translation bdfada82f97e36d5… (all of the seat's roots in one cut). By AI agents, Wed Nov 11 2026. No macro, syntax, notation, axiom, sorry.
-/
import Derived.Test.YthacglggkgmbhaaChecked
import GoSem.Claim
import GoSem.ClaimJoined
import GoSem.ClaimMapViews
import Derived.JoinedTies
import Derived.KernelRfl
namespace Go.Proofs.Ythacglggkgmbhaa
/- THE CELL 'sum', in the pinned program and in every row, IS THE sha256 OF THE DUMP (.gsa) THAT YthacglggkgmbhaaProg.lean LOADS. Nothing in Lean hashes anything: it is a label: what it is worth is what the hold of that sum in a sandbox is worth. -/
noncomputable def Try.pinned : Pinned := { name := "ythacglggkgmbhaa", sum := "bdfada82f97e36d52fffd9f878d3e3da0572c9b3af2df1a32f45c334ecdb867e", checked := Try.checked }
namespace Rows
def none {H : Type} : Left H := { results := [], args := [] }

/-- 'timblaw1.GroupFactors': WHATEVER THE INPUT: true; the input reads as it did. -/
def groupFactorsSpec : ChangeSpec := { name := "groupFactors", fn := fun _ => fun
  | [d1, d2, d3] => { results := [.lit (.bool true)], args := [d1, d2, d3] }
  | _ => none }
def groupFactorsRow : OpenClaim := { program := "ythacglggkgmbhaa", sum := "bdfada82f97e36d52fffd9f878d3e3da0572c9b3af2df1a32f45c334ecdb867e", func := "timbrel/timblaw1.GroupFactors", spec := "groupFactors", unfollowed := true, recurses := true, plainKeys := false, apart := false }
def GroupFactorsSaid : Prop := groupFactorsRow.holds Try.pinned (OpenSpec.ofChange groupFactorsSpec)

/-- ITS FALSE NEIGHBOUR: 'it returns false'. Refute it at one input. -/
def groupFactorsWrong : ChangeSpec := { name := "groupFactors", fn := fun _ => fun
  | [d1, d2, d3] => { results := [.lit (.bool false)], args := [d1, d2, d3] }
  | _ => none }
def GroupFactorsWrongFalsely : Prop := groupFactorsRow.holds Try.pinned (OpenSpec.ofChange groupFactorsWrong)

/-- 'timblaw1.GroupOrders': WHATEVER THE INPUT: true; the input reads as it did. -/
def groupOrdersSpec : ChangeSpec := { name := "groupOrders", fn := fun _ => fun
  | [d1, d2, d3] => { results := [.lit (.bool true)], args := [d1, d2, d3] }
  | _ => none }
def groupOrdersRow : OpenClaim := { program := "ythacglggkgmbhaa", sum := "bdfada82f97e36d52fffd9f878d3e3da0572c9b3af2df1a32f45c334ecdb867e", func := "timbrel/timblaw1.GroupOrders", spec := "groupOrders", unfollowed := true, recurses := true, plainKeys := false, apart := false }
def GroupOrdersSaid : Prop := groupOrdersRow.holds Try.pinned (OpenSpec.ofChange groupOrdersSpec)

/-- ITS FALSE NEIGHBOUR: 'it returns false'. Refute it at one input. -/
def groupOrdersWrong : ChangeSpec := { name := "groupOrders", fn := fun _ => fun
  | [d1, d2, d3] => { results := [.lit (.bool false)], args := [d1, d2, d3] }
  | _ => none }
def GroupOrdersWrongFalsely : Prop := groupOrdersRow.holds Try.pinned (OpenSpec.ofChange groupOrdersWrong)

/-- 'timblaw1.GroupOrbits': WHATEVER THE INPUT: true; the input reads as it did. -/
def groupOrbitsSpec : ChangeSpec := { name := "groupOrbits", fn := fun _ => fun
  | [d1, d2, d3] => { results := [.lit (.bool true)], args := [d1, d2, d3] }
  | _ => none }
def groupOrbitsRow : OpenClaim := { program := "ythacglggkgmbhaa", sum := "bdfada82f97e36d52fffd9f878d3e3da0572c9b3af2df1a32f45c334ecdb867e", func := "timbrel/timblaw1.GroupOrbits", spec := "groupOrbits", unfollowed := true, recurses := true, plainKeys := false, apart := false }
def GroupOrbitsSaid : Prop := groupOrbitsRow.holds Try.pinned (OpenSpec.ofChange groupOrbitsSpec)

/-- ITS FALSE NEIGHBOUR: 'it returns false'. Refute it at one input. -/
def groupOrbitsWrong : ChangeSpec := { name := "groupOrbits", fn := fun _ => fun
  | [d1, d2, d3] => { results := [.lit (.bool false)], args := [d1, d2, d3] }
  | _ => none }
def GroupOrbitsWrongFalsely : Prop := groupOrbitsRow.holds Try.pinned (OpenSpec.ofChange groupOrbitsWrong)

/- THE SECOND FORM. 'bulk': how many values and letters a reading holds, each counted each time it is reached (what is shared counts as often as it is met; a slice's spare places count too). A statement '..UptoSaid' is the law's where the arguments, and the package variables that the reading takes, are together of bulk at most 1048576: NARROWER than '..Said'. Prove '..Said' where nothing that the law and all that it calls make is longer than what came in: it says more and counts as full. Else prove '..UptoSaid'. A law counts once. -/
mutual
def uptoBulk {H : Type} : DataW H → Nat
  | .lit (.string bytes) => bytes.length + 1
  | .lit _ => 1
  | .nil => 1
  | .ptr d => uptoBulk d + 1
  | .slice elems spare => uptoBulkAll elems + uptoBulkAll spare + 1
  | .agg parts => uptoBulkAll parts + 1
  | .iface _ d => uptoBulk d + 1
  | .map entries => uptoBulkEntries entries + 1
  | .held _ => 1
def uptoBulkAll {H : Type} : List (DataW H) → Nat
  | [] => 0
  | d :: r => uptoBulk d + uptoBulkAll r
def uptoBulkEntries {H : Type} : List (Lit × DataW H) → Nat
  | [] => 0
  | x :: r => uptoBulkEntry x + uptoBulkEntries r
def uptoBulkEntry {H : Type} : Lit × DataW H → Nat
  | (.string bytes, d) => bytes.length + uptoBulk d + 1
  | (_, d) => uptoBulk d + 1
 end
def uptoSmall : (H : Type) → List (DataW H) → Bool := fun _ ds => decide (uptoBulkAll ds ≤ 1048576)
def OpenSpec.upto (s : _root_.Go.ChangeSpec) : _root_.Go.OpenSpec := { _root_.Go.OpenSpec.ofChange s with cond := some uptoSmall }

/-- 'timblaw1.GroupFactors', WHERE WHAT IT READS IS OF BULK AT MOST 1048576: true; the input reads as it did. -/
def groupFactorsUptoRow : OpenClaim := { program := "ythacglggkgmbhaa", sum := "bdfada82f97e36d52fffd9f878d3e3da0572c9b3af2df1a32f45c334ecdb867e", func := "timbrel/timblaw1.GroupFactors", spec := "groupFactors", unfollowed := true, recurses := true, plainKeys := false, apart := false, narrowed := true }
def GroupFactorsUptoSaid : Prop := groupFactorsUptoRow.holds Try.pinned (OpenSpec.upto groupFactorsSpec)

/-- 'timblaw1.GroupOrders', WHERE WHAT IT READS IS OF BULK AT MOST 1048576: true; the input reads as it did. -/
def groupOrdersUptoRow : OpenClaim := { program := "ythacglggkgmbhaa", sum := "bdfada82f97e36d52fffd9f878d3e3da0572c9b3af2df1a32f45c334ecdb867e", func := "timbrel/timblaw1.GroupOrders", spec := "groupOrders", unfollowed := true, recurses := true, plainKeys := false, apart := false, narrowed := true }
def GroupOrdersUptoSaid : Prop := groupOrdersUptoRow.holds Try.pinned (OpenSpec.upto groupOrdersSpec)

/-- 'timblaw1.GroupOrbits', WHERE WHAT IT READS IS OF BULK AT MOST 1048576: true; the input reads as it did. -/
def groupOrbitsUptoRow : OpenClaim := { program := "ythacglggkgmbhaa", sum := "bdfada82f97e36d52fffd9f878d3e3da0572c9b3af2df1a32f45c334ecdb867e", func := "timbrel/timblaw1.GroupOrbits", spec := "groupOrbits", unfollowed := true, recurses := true, plainKeys := false, apart := false, narrowed := true }
def GroupOrbitsUptoSaid : Prop := groupOrbitsUptoRow.holds Try.pinned (OpenSpec.upto groupOrbitsSpec)

end Rows
end Go.Proofs.Ythacglggkgmbhaa
