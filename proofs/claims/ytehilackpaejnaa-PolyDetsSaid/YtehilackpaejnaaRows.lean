/-
  No cell of these rows narrows 'for every input' (looked for: loops, veiled, ifaces, maps, wideKeys, modest, calm, conditions, laid).
  DERIVED. THE GIVEN ROWS OF THIS SEAT. 5 by the template 'for every input the law returns true; each argument reads behind the call as it read before'; 0 by the template 'total and deterministic' (their statements: YtehilackpaejnaaTotals.lean).
  GIVEN WITH THE SEED: the statements are not yours to turn. If you find one false, say at which input.
  Laid BY PROGRAM, IN A SANDBOX (cutbox-rows.mjs): the forced cells as the released guide's own fill.sh prints them over the translation b9cf2721685f8fa8… (all of the seat's roots in one cut). By AI agents, Wed Nov 11 2026. No macro, syntax, notation, axiom, sorry.
-/
import Derived.Test.YtehilackpaejnaaChecked
import GoSem.Claim
import GoSem.ClaimJoined
import GoSem.ClaimMapViews
import Derived.JoinedTies
import Derived.KernelRfl
namespace Go.Proofs.Ytehilackpaejnaa
/- THE CELL 'sum', in the pinned program and in every row, IS THE sha256 OF THE DUMP (.gsa) THAT YtehilackpaejnaaProg.lean LOADS. Nothing in Lean hashes anything: it is a label: what it is worth is what the hold of that sum in a sandbox is worth. -/
noncomputable def Try.pinned : Pinned := { name := "ytehilackpaejnaa", sum := "b9cf2721685f8fa8b02ce2462558f9eab1609db24d2897067081b0c7ad936e82", checked := Try.checked }
namespace Rows
def none {H : Type} : Left H := { results := [], args := [] }

/-- 'timblaw1.PolySums': WHATEVER THE INPUT: true; the input reads as it did. -/
def polySumsSpec : ChangeSpec := { name := "polySums", fn := fun _ => fun
  | [d1, d2] => { results := [.lit (.bool true)], args := [d1, d2] }
  | _ => none }
def polySumsRow : OpenClaim := { program := "ytehilackpaejnaa", sum := "b9cf2721685f8fa8b02ce2462558f9eab1609db24d2897067081b0c7ad936e82", func := "timbrel/timblaw1.PolySums", spec := "polySums", unfollowed := true, recurses := true, apart := false }
def PolySumsSaid : Prop := polySumsRow.holds Try.pinned (OpenSpec.ofChange polySumsSpec)

/-- ITS FALSE NEIGHBOUR: 'it returns false'. Refute it at one input. -/
def polySumsWrong : ChangeSpec := { name := "polySums", fn := fun _ => fun
  | [d1, d2] => { results := [.lit (.bool false)], args := [d1, d2] }
  | _ => none }
def PolySumsWrongFalsely : Prop := polySumsRow.holds Try.pinned (OpenSpec.ofChange polySumsWrong)

/-- 'timblaw1.PolyDivides': WHATEVER THE INPUT: true; the input reads as it did. -/
def polyDividesSpec : ChangeSpec := { name := "polyDivides", fn := fun _ => fun
  | [d1, d2] => { results := [.lit (.bool true)], args := [d1, d2] }
  | _ => none }
def polyDividesRow : OpenClaim := { program := "ytehilackpaejnaa", sum := "b9cf2721685f8fa8b02ce2462558f9eab1609db24d2897067081b0c7ad936e82", func := "timbrel/timblaw1.PolyDivides", spec := "polyDivides", unfollowed := true, recurses := true, apart := false }
def PolyDividesSaid : Prop := polyDividesRow.holds Try.pinned (OpenSpec.ofChange polyDividesSpec)

/-- ITS FALSE NEIGHBOUR: 'it returns false'. Refute it at one input. -/
def polyDividesWrong : ChangeSpec := { name := "polyDivides", fn := fun _ => fun
  | [d1, d2] => { results := [.lit (.bool false)], args := [d1, d2] }
  | _ => none }
def PolyDividesWrongFalsely : Prop := polyDividesRow.holds Try.pinned (OpenSpec.ofChange polyDividesWrong)

/-- 'timblaw1.PolySingles': WHATEVER THE INPUT: true; the input reads as it did. -/
def polySinglesSpec : ChangeSpec := { name := "polySingles", fn := fun _ => fun
  | [d1, d2] => { results := [.lit (.bool true)], args := [d1, d2] }
  | _ => none }
def polySinglesRow : OpenClaim := { program := "ytehilackpaejnaa", sum := "b9cf2721685f8fa8b02ce2462558f9eab1609db24d2897067081b0c7ad936e82", func := "timbrel/timblaw1.PolySingles", spec := "polySingles", unfollowed := true, recurses := true, apart := false }
def PolySinglesSaid : Prop := polySinglesRow.holds Try.pinned (OpenSpec.ofChange polySinglesSpec)

/-- ITS FALSE NEIGHBOUR: 'it returns false'. Refute it at one input. -/
def polySinglesWrong : ChangeSpec := { name := "polySingles", fn := fun _ => fun
  | [d1, d2] => { results := [.lit (.bool false)], args := [d1, d2] }
  | _ => none }
def PolySinglesWrongFalsely : Prop := polySinglesRow.holds Try.pinned (OpenSpec.ofChange polySinglesWrong)

/-- 'timblaw1.FoxDerives': WHATEVER THE INPUT: true; the input reads as it did. -/
def foxDerivesSpec : ChangeSpec := { name := "foxDerives", fn := fun _ => fun
  | [d1, d2] => { results := [.lit (.bool true)], args := [d1, d2] }
  | _ => none }
def foxDerivesRow : OpenClaim := { program := "ytehilackpaejnaa", sum := "b9cf2721685f8fa8b02ce2462558f9eab1609db24d2897067081b0c7ad936e82", func := "timbrel/timblaw1.FoxDerives", spec := "foxDerives", unfollowed := true, recurses := true, apart := false }
def FoxDerivesSaid : Prop := foxDerivesRow.holds Try.pinned (OpenSpec.ofChange foxDerivesSpec)

/-- ITS FALSE NEIGHBOUR: 'it returns false'. Refute it at one input. -/
def foxDerivesWrong : ChangeSpec := { name := "foxDerives", fn := fun _ => fun
  | [d1, d2] => { results := [.lit (.bool false)], args := [d1, d2] }
  | _ => none }
def FoxDerivesWrongFalsely : Prop := foxDerivesRow.holds Try.pinned (OpenSpec.ofChange foxDerivesWrong)

/-- 'timblaw1.PolyDets': WHATEVER THE INPUT: true; the input reads as it did. -/
def polyDetsSpec : ChangeSpec := { name := "polyDets", fn := fun _ => fun
  | [d] => { results := [.lit (.bool true)], args := [d] }
  | _ => none }
def polyDetsRow : OpenClaim := { program := "ytehilackpaejnaa", sum := "b9cf2721685f8fa8b02ce2462558f9eab1609db24d2897067081b0c7ad936e82", func := "timbrel/timblaw1.PolyDets", spec := "polyDets", unfollowed := true, recurses := true, apart := false }
def PolyDetsSaid : Prop := polyDetsRow.holds Try.pinned (OpenSpec.ofChange polyDetsSpec)

/-- ITS FALSE NEIGHBOUR: 'it returns false'. Refute it at one input. -/
def polyDetsWrong : ChangeSpec := { name := "polyDets", fn := fun _ => fun
  | [d] => { results := [.lit (.bool false)], args := [d] }
  | _ => none }
def PolyDetsWrongFalsely : Prop := polyDetsRow.holds Try.pinned (OpenSpec.ofChange polyDetsWrong)

/- THE SECOND FORM. 'bulk': how many values and letters a reading holds, each counted each time it is reached (what is shared counts as often as it is met; a slice's spare places count too). A statement '..UptoSaid' is the law's where the arguments, and the package variables that the reading takes, are together of bulk at most 1048576: NARROWER than '..Said'. Prove '..Said' where nothing that the law and all that it calls make is longer than what came in: it says more and counts as full. Else prove '..UptoSaid'. A law counts once. -/
mutual
def uptoBulk {H : Type} : DataW H → Nat
  | .lit (.string bytes) => bytes.length + 1
  | .lit _ => 1
  | .nil => 1
  | .ptr d => uptoBulk d + 1
  | .slice elems spare => uptoBulkAll elems + uptoBulkAll spare + 1
  | .agg parts => uptoBulkAll parts + 1
  | .iface _ d => uptoBulk d + 1
  | .map entries => uptoBulkEntries entries + 1
  | .held _ => 1
def uptoBulkAll {H : Type} : List (DataW H) → Nat
  | [] => 0
  | d :: r => uptoBulk d + uptoBulkAll r
def uptoBulkEntries {H : Type} : List (Lit × DataW H) → Nat
  | [] => 0
  | x :: r => uptoBulkEntry x + uptoBulkEntries r
def uptoBulkEntry {H : Type} : Lit × DataW H → Nat
  | (.string bytes, d) => bytes.length + uptoBulk d + 1
  | (_, d) => uptoBulk d + 1
 end
def uptoSmall : (H : Type) → List (DataW H) → Bool := fun _ ds => decide (uptoBulkAll ds ≤ 1048576)
def OpenSpec.upto (s : _root_.Go.ChangeSpec) : _root_.Go.OpenSpec := { _root_.Go.OpenSpec.ofChange s with cond := some uptoSmall }

/-- 'timblaw1.PolySums', WHERE WHAT IT READS IS OF BULK AT MOST 1048576: true; the input reads as it did. -/
def polySumsUptoRow : OpenClaim := { program := "ytehilackpaejnaa", sum := "b9cf2721685f8fa8b02ce2462558f9eab1609db24d2897067081b0c7ad936e82", func := "timbrel/timblaw1.PolySums", spec := "polySums", unfollowed := true, recurses := true, apart := false, narrowed := true }
def PolySumsUptoSaid : Prop := polySumsUptoRow.holds Try.pinned (OpenSpec.upto polySumsSpec)

/-- 'timblaw1.PolyDivides', WHERE WHAT IT READS IS OF BULK AT MOST 1048576: true; the input reads as it did. -/
def polyDividesUptoRow : OpenClaim := { program := "ytehilackpaejnaa", sum := "b9cf2721685f8fa8b02ce2462558f9eab1609db24d2897067081b0c7ad936e82", func := "timbrel/timblaw1.PolyDivides", spec := "polyDivides", unfollowed := true, recurses := true, apart := false, narrowed := true }
def PolyDividesUptoSaid : Prop := polyDividesUptoRow.holds Try.pinned (OpenSpec.upto polyDividesSpec)

/-- 'timblaw1.PolySingles', WHERE WHAT IT READS IS OF BULK AT MOST 1048576: true; the input reads as it did. -/
def polySinglesUptoRow : OpenClaim := { program := "ytehilackpaejnaa", sum := "b9cf2721685f8fa8b02ce2462558f9eab1609db24d2897067081b0c7ad936e82", func := "timbrel/timblaw1.PolySingles", spec := "polySingles", unfollowed := true, recurses := true, apart := false, narrowed := true }
def PolySinglesUptoSaid : Prop := polySinglesUptoRow.holds Try.pinned (OpenSpec.upto polySinglesSpec)

/-- 'timblaw1.FoxDerives', WHERE WHAT IT READS IS OF BULK AT MOST 1048576: true; the input reads as it did. -/
def foxDerivesUptoRow : OpenClaim := { program := "ytehilackpaejnaa", sum := "b9cf2721685f8fa8b02ce2462558f9eab1609db24d2897067081b0c7ad936e82", func := "timbrel/timblaw1.FoxDerives", spec := "foxDerives", unfollowed := true, recurses := true, apart := false, narrowed := true }
def FoxDerivesUptoSaid : Prop := foxDerivesUptoRow.holds Try.pinned (OpenSpec.upto foxDerivesSpec)

/-- 'timblaw1.PolyDets', WHERE WHAT IT READS IS OF BULK AT MOST 1048576: true; the input reads as it did. -/
def polyDetsUptoRow : OpenClaim := { program := "ytehilackpaejnaa", sum := "b9cf2721685f8fa8b02ce2462558f9eab1609db24d2897067081b0c7ad936e82", func := "timbrel/timblaw1.PolyDets", spec := "polyDets", unfollowed := true, recurses := true, apart := false, narrowed := true }
def PolyDetsUptoSaid : Prop := polyDetsUptoRow.holds Try.pinned (OpenSpec.upto polyDetsSpec)

end Rows
end Go.Proofs.Ytehilackpaejnaa
