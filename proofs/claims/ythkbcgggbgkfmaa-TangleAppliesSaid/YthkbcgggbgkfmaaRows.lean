/-
  No cell of these rows narrows 'for every input' (looked for: loops, veiled, ifaces, maps, wideKeys, modest, calm, conditions, laid).
  DERIVED. THE GIVEN ROWS OF THIS SEAT. 3 by the template 'for every input the law returns true; each argument reads behind the call as it read before'; 0 by the template 'total and deterministic' (their statements: YthkbcgggbgkfmaaTotals.lean).
  GIVEN WITH THE SEED: the statements are not yours to turn. If you find one false, say at which input.
  Laid BY PROGRAM, IN A SANDBOX (cutbox-rows.mjs): the forced cells as the released guide's own fill.sh prints them over the translation 72690ed1687a2519… (all of the seat's roots in one cut). By AI agents, Wed Nov 11 2026. No macro, syntax, notation, axiom, sorry.
-/
import Derived.Test.YthkbcgggbgkfmaaChecked
import GoSem.Claim
import GoSem.ClaimJoined
import GoSem.ClaimMapViews
import Derived.JoinedTies
import Derived.KernelRfl
namespace Go.Proofs.Ythkbcgggbgkfmaa
/- THE CELL 'sum', in the pinned program and in every row, IS THE sha256 OF THE DUMP (.gsa) THAT YthkbcgggbgkfmaaProg.lean LOADS. Nothing in Lean hashes anything: it is a label: what it is worth is what the hold of that sum in a sandbox is worth. -/
noncomputable def Try.pinned : Pinned := { name := "ythkbcgggbgkfmaa", sum := "72690ed1687a251993fdd8239d4a7e0e76921d63d6ad2b12e41b294f501d9a4b", checked := Try.checked }
namespace Rows
def none {H : Type} : Left H := { results := [], args := [] }

/-- 'timblaw1.TangleTwists': WHATEVER THE INPUT: true; the input reads as it did. -/
def tangleTwistsSpec : ChangeSpec := { name := "tangleTwists", fn := fun _ => fun
  | [d1, d2] => { results := [.lit (.bool true)], args := [d1, d2] }
  | _ => none }
def tangleTwistsRow : OpenClaim := { program := "ythkbcgggbgkfmaa", sum := "72690ed1687a251993fdd8239d4a7e0e76921d63d6ad2b12e41b294f501d9a4b", func := "timbrel/timblaw1.TangleTwists", spec := "tangleTwists", unfollowed := true, recurses := true, apart := false }
def TangleTwistsSaid : Prop := tangleTwistsRow.holds Try.pinned (OpenSpec.ofChange tangleTwistsSpec)

/-- ITS FALSE NEIGHBOUR: 'it returns false'. Refute it at one input. -/
def tangleTwistsWrong : ChangeSpec := { name := "tangleTwists", fn := fun _ => fun
  | [d1, d2] => { results := [.lit (.bool false)], args := [d1, d2] }
  | _ => none }
def TangleTwistsWrongFalsely : Prop := tangleTwistsRow.holds Try.pinned (OpenSpec.ofChange tangleTwistsWrong)

/-- 'timblaw1.TangleClasses': WHATEVER THE INPUT: true; the input reads as it did. -/
def tangleClassesSpec : ChangeSpec := { name := "tangleClasses", fn := fun _ => fun
  | [d1, d2] => { results := [.lit (.bool true)], args := [d1, d2] }
  | _ => none }
def tangleClassesRow : OpenClaim := { program := "ythkbcgggbgkfmaa", sum := "72690ed1687a251993fdd8239d4a7e0e76921d63d6ad2b12e41b294f501d9a4b", func := "timbrel/timblaw1.TangleClasses", spec := "tangleClasses", unfollowed := true, recurses := true, apart := false }
def TangleClassesSaid : Prop := tangleClassesRow.holds Try.pinned (OpenSpec.ofChange tangleClassesSpec)

/-- ITS FALSE NEIGHBOUR: 'it returns false'. Refute it at one input. -/
def tangleClassesWrong : ChangeSpec := { name := "tangleClasses", fn := fun _ => fun
  | [d1, d2] => { results := [.lit (.bool false)], args := [d1, d2] }
  | _ => none }
def TangleClassesWrongFalsely : Prop := tangleClassesRow.holds Try.pinned (OpenSpec.ofChange tangleClassesWrong)

/-- 'timblaw1.TangleApplies': WHATEVER THE INPUT: true; the input reads as it did. -/
def tangleAppliesSpec : ChangeSpec := { name := "tangleApplies", fn := fun _ => fun
  | [d1, d2] => { results := [.lit (.bool true)], args := [d1, d2] }
  | _ => none }
def tangleAppliesRow : OpenClaim := { program := "ythkbcgggbgkfmaa", sum := "72690ed1687a251993fdd8239d4a7e0e76921d63d6ad2b12e41b294f501d9a4b", func := "timbrel/timblaw1.TangleApplies", spec := "tangleApplies", unfollowed := true, recurses := true, apart := false }
def TangleAppliesSaid : Prop := tangleAppliesRow.holds Try.pinned (OpenSpec.ofChange tangleAppliesSpec)

/-- ITS FALSE NEIGHBOUR: 'it returns false'. Refute it at one input. -/
def tangleAppliesWrong : ChangeSpec := { name := "tangleApplies", fn := fun _ => fun
  | [d1, d2] => { results := [.lit (.bool false)], args := [d1, d2] }
  | _ => none }
def TangleAppliesWrongFalsely : Prop := tangleAppliesRow.holds Try.pinned (OpenSpec.ofChange tangleAppliesWrong)

/- THE SECOND FORM. 'bulk': how many values and letters a reading holds, each counted each time it is reached (what is shared counts as often as it is met; a slice's spare places count too). A statement '..UptoSaid' is the law's where the arguments, and the package variables that the reading takes, are together of bulk at most 1048576: NARROWER than '..Said'. Prove '..Said' where nothing that the law and all that it calls make is longer than what came in: it says more and counts as full. Else prove '..UptoSaid'. A law counts once. -/
mutual
def uptoBulk {H : Type} : DataW H → Nat
  | .lit (.string bytes) => bytes.length + 1
  | .lit _ => 1
  | .nil => 1
  | .ptr d => uptoBulk d + 1
  | .slice elems spare => uptoBulkAll elems + uptoBulkAll spare + 1
  | .agg parts => uptoBulkAll parts + 1
  | .iface _ d => uptoBulk d + 1
  | .map entries => uptoBulkEntries entries + 1
  | .held _ => 1
def uptoBulkAll {H : Type} : List (DataW H) → Nat
  | [] => 0
  | d :: r => uptoBulk d + uptoBulkAll r
def uptoBulkEntries {H : Type} : List (Lit × DataW H) → Nat
  | [] => 0
  | x :: r => uptoBulkEntry x + uptoBulkEntries r
def uptoBulkEntry {H : Type} : Lit × DataW H → Nat
  | (.string bytes, d) => bytes.length + uptoBulk d + 1
  | (_, d) => uptoBulk d + 1
 end
def uptoSmall : (H : Type) → List (DataW H) → Bool := fun _ ds => decide (uptoBulkAll ds ≤ 1048576)
def OpenSpec.upto (s : _root_.Go.ChangeSpec) : _root_.Go.OpenSpec := { _root_.Go.OpenSpec.ofChange s with cond := some uptoSmall }

/-- 'timblaw1.TangleTwists', WHERE WHAT IT READS IS OF BULK AT MOST 1048576: true; the input reads as it did. -/
def tangleTwistsUptoRow : OpenClaim := { program := "ythkbcgggbgkfmaa", sum := "72690ed1687a251993fdd8239d4a7e0e76921d63d6ad2b12e41b294f501d9a4b", func := "timbrel/timblaw1.TangleTwists", spec := "tangleTwists", unfollowed := true, recurses := true, apart := false, narrowed := true }
def TangleTwistsUptoSaid : Prop := tangleTwistsUptoRow.holds Try.pinned (OpenSpec.upto tangleTwistsSpec)

/-- 'timblaw1.TangleClasses', WHERE WHAT IT READS IS OF BULK AT MOST 1048576: true; the input reads as it did. -/
def tangleClassesUptoRow : OpenClaim := { program := "ythkbcgggbgkfmaa", sum := "72690ed1687a251993fdd8239d4a7e0e76921d63d6ad2b12e41b294f501d9a4b", func := "timbrel/timblaw1.TangleClasses", spec := "tangleClasses", unfollowed := true, recurses := true, apart := false, narrowed := true }
def TangleClassesUptoSaid : Prop := tangleClassesUptoRow.holds Try.pinned (OpenSpec.upto tangleClassesSpec)

/-- 'timblaw1.TangleApplies', WHERE WHAT IT READS IS OF BULK AT MOST 1048576: true; the input reads as it did. -/
def tangleAppliesUptoRow : OpenClaim := { program := "ythkbcgggbgkfmaa", sum := "72690ed1687a251993fdd8239d4a7e0e76921d63d6ad2b12e41b294f501d9a4b", func := "timbrel/timblaw1.TangleApplies", spec := "tangleApplies", unfollowed := true, recurses := true, apart := false, narrowed := true }
def TangleAppliesUptoSaid : Prop := tangleAppliesUptoRow.holds Try.pinned (OpenSpec.upto tangleAppliesSpec)

end Rows
end Go.Proofs.Ythkbcgggbgkfmaa
