/-
  No cell of these rows narrows 'for every input' (looked for: loops, veiled, ifaces, maps, wideKeys, modest, calm, conditions, laid).
  DERIVED. THE GIVEN ROWS OF THIS SEAT. 4 by the template 'for every input the law returns true; each argument reads behind the call as it read before'; 0 by the template 'total and deterministic' (their statements: YtpnamejmkfpeoaaTotals.lean).
  GIVEN WITH THE SEED: the statements are not yours to turn. If you find one false, say at which input.
  Laid BY PROGRAM, IN A SANDBOX (cutbox-rows.mjs): the forced cells as the released guide's own fill.sh prints them over the translation 8fdb52ea8ddb61d0… (all of the seat's roots in one cut). By AI agents, Wed Nov 11 2026. No macro, syntax, notation, axiom, sorry.
-/
import Derived.Test.YtpnamejmkfpeoaaChecked
import GoSem.Claim
import GoSem.ClaimJoined
import GoSem.ClaimMapViews
import Derived.JoinedTies
import Derived.KernelRfl
namespace Go.Proofs.Ytpnamejmkfpeoaa
/- THE CELL 'sum', in the pinned program and in every row, IS THE sha256 OF THE DUMP (.gsa) THAT YtpnamejmkfpeoaaProg.lean LOADS. Nothing in Lean hashes anything: it is a label: what it is worth is what the hold of that sum in a sandbox is worth. -/
noncomputable def Try.pinned : Pinned := { name := "ytpnamejmkfpeoaa", sum := "8fdb52ea8ddb61d0fe97de587ffa55a6ece552137d41a79dd1847bedc17c98ac", checked := Try.checked }
namespace Rows
def none {H : Type} : Left H := { results := [], args := [] }

/-- 'timblaw1.FreeReduces': WHATEVER THE INPUT: true; the input reads as it did. -/
def freeReducesSpec : ChangeSpec := { name := "freeReduces", fn := fun _ => fun
  | [d1, d2] => { results := [.lit (.bool true)], args := [d1, d2] }
  | _ => none }
def freeReducesRow : OpenClaim := { program := "ytpnamejmkfpeoaa", sum := "8fdb52ea8ddb61d0fe97de587ffa55a6ece552137d41a79dd1847bedc17c98ac", func := "timbrel/timblaw1.FreeReduces", spec := "freeReduces", unfollowed := true, recurses := true, apart := false }
def FreeReducesSaid : Prop := freeReducesRow.holds Try.pinned (OpenSpec.ofChange freeReducesSpec)

/-- ITS FALSE NEIGHBOUR: 'it returns false'. Refute it at one input. -/
def freeReducesWrong : ChangeSpec := { name := "freeReduces", fn := fun _ => fun
  | [d1, d2] => { results := [.lit (.bool false)], args := [d1, d2] }
  | _ => none }
def FreeReducesWrongFalsely : Prop := freeReducesRow.holds Try.pinned (OpenSpec.ofChange freeReducesWrong)

/-- 'timblaw1.FreeCycles': WHATEVER THE INPUT: true; the input reads as it did. -/
def freeCyclesSpec : ChangeSpec := { name := "freeCycles", fn := fun _ => fun
  | [d1, d2] => { results := [.lit (.bool true)], args := [d1, d2] }
  | _ => none }
def freeCyclesRow : OpenClaim := { program := "ytpnamejmkfpeoaa", sum := "8fdb52ea8ddb61d0fe97de587ffa55a6ece552137d41a79dd1847bedc17c98ac", func := "timbrel/timblaw1.FreeCycles", spec := "freeCycles", unfollowed := true, recurses := true, apart := false }
def FreeCyclesSaid : Prop := freeCyclesRow.holds Try.pinned (OpenSpec.ofChange freeCyclesSpec)

/-- ITS FALSE NEIGHBOUR: 'it returns false'. Refute it at one input. -/
def freeCyclesWrong : ChangeSpec := { name := "freeCycles", fn := fun _ => fun
  | [d1, d2] => { results := [.lit (.bool false)], args := [d1, d2] }
  | _ => none }
def FreeCyclesWrongFalsely : Prop := freeCyclesRow.holds Try.pinned (OpenSpec.ofChange freeCyclesWrong)

/-- 'timblaw1.ArtinImages': WHATEVER THE INPUT: true; the input reads as it did. -/
def artinImagesSpec : ChangeSpec := { name := "artinImages", fn := fun _ => fun
  | [d1, d2] => { results := [.lit (.bool true)], args := [d1, d2] }
  | _ => none }
def artinImagesRow : OpenClaim := { program := "ytpnamejmkfpeoaa", sum := "8fdb52ea8ddb61d0fe97de587ffa55a6ece552137d41a79dd1847bedc17c98ac", func := "timbrel/timblaw1.ArtinImages", spec := "artinImages", unfollowed := true, recurses := true, apart := false }
def ArtinImagesSaid : Prop := artinImagesRow.holds Try.pinned (OpenSpec.ofChange artinImagesSpec)

/-- ITS FALSE NEIGHBOUR: 'it returns false'. Refute it at one input. -/
def artinImagesWrong : ChangeSpec := { name := "artinImages", fn := fun _ => fun
  | [d1, d2] => { results := [.lit (.bool false)], args := [d1, d2] }
  | _ => none }
def ArtinImagesWrongFalsely : Prop := artinImagesRow.holds Try.pinned (OpenSpec.ofChange artinImagesWrong)

/-- 'timblaw1.ArtinEquals': WHATEVER THE INPUT: true; the input reads as it did. -/
def artinEqualsSpec : ChangeSpec := { name := "artinEquals", fn := fun _ => fun
  | [d1, d2, d3] => { results := [.lit (.bool true)], args := [d1, d2, d3] }
  | _ => none }
def artinEqualsRow : OpenClaim := { program := "ytpnamejmkfpeoaa", sum := "8fdb52ea8ddb61d0fe97de587ffa55a6ece552137d41a79dd1847bedc17c98ac", func := "timbrel/timblaw1.ArtinEquals", spec := "artinEquals", unfollowed := true, recurses := true, apart := false }
def ArtinEqualsSaid : Prop := artinEqualsRow.holds Try.pinned (OpenSpec.ofChange artinEqualsSpec)

/-- ITS FALSE NEIGHBOUR: 'it returns false'. Refute it at one input. -/
def artinEqualsWrong : ChangeSpec := { name := "artinEquals", fn := fun _ => fun
  | [d1, d2, d3] => { results := [.lit (.bool false)], args := [d1, d2, d3] }
  | _ => none }
def ArtinEqualsWrongFalsely : Prop := artinEqualsRow.holds Try.pinned (OpenSpec.ofChange artinEqualsWrong)

/- THE SECOND FORM. 'bulk': how many values and letters a reading holds, each counted each time it is reached (what is shared counts as often as it is met; a slice's spare places count too). A statement '..UptoSaid' is the law's where the arguments, and the package variables that the reading takes, are together of bulk at most 1048576: NARROWER than '..Said'. Prove '..Said' where nothing that the law and all that it calls make is longer than what came in: it says more and counts as full. Else prove '..UptoSaid'. A law counts once. -/
mutual
def uptoBulk {H : Type} : DataW H → Nat
  | .lit (.string bytes) => bytes.length + 1
  | .lit _ => 1
  | .nil => 1
  | .ptr d => uptoBulk d + 1
  | .slice elems spare => uptoBulkAll elems + uptoBulkAll spare + 1
  | .agg parts => uptoBulkAll parts + 1
  | .iface _ d => uptoBulk d + 1
  | .map entries => uptoBulkEntries entries + 1
  | .held _ => 1
def uptoBulkAll {H : Type} : List (DataW H) → Nat
  | [] => 0
  | d :: r => uptoBulk d + uptoBulkAll r
def uptoBulkEntries {H : Type} : List (Lit × DataW H) → Nat
  | [] => 0
  | x :: r => uptoBulkEntry x + uptoBulkEntries r
def uptoBulkEntry {H : Type} : Lit × DataW H → Nat
  | (.string bytes, d) => bytes.length + uptoBulk d + 1
  | (_, d) => uptoBulk d + 1
 end
def uptoSmall : (H : Type) → List (DataW H) → Bool := fun _ ds => decide (uptoBulkAll ds ≤ 1048576)
def OpenSpec.upto (s : _root_.Go.ChangeSpec) : _root_.Go.OpenSpec := { _root_.Go.OpenSpec.ofChange s with cond := some uptoSmall }

/-- 'timblaw1.FreeReduces', WHERE WHAT IT READS IS OF BULK AT MOST 1048576: true; the input reads as it did. -/
def freeReducesUptoRow : OpenClaim := { program := "ytpnamejmkfpeoaa", sum := "8fdb52ea8ddb61d0fe97de587ffa55a6ece552137d41a79dd1847bedc17c98ac", func := "timbrel/timblaw1.FreeReduces", spec := "freeReduces", unfollowed := true, recurses := true, apart := false, narrowed := true }
def FreeReducesUptoSaid : Prop := freeReducesUptoRow.holds Try.pinned (OpenSpec.upto freeReducesSpec)

/-- 'timblaw1.FreeCycles', WHERE WHAT IT READS IS OF BULK AT MOST 1048576: true; the input reads as it did. -/
def freeCyclesUptoRow : OpenClaim := { program := "ytpnamejmkfpeoaa", sum := "8fdb52ea8ddb61d0fe97de587ffa55a6ece552137d41a79dd1847bedc17c98ac", func := "timbrel/timblaw1.FreeCycles", spec := "freeCycles", unfollowed := true, recurses := true, apart := false, narrowed := true }
def FreeCyclesUptoSaid : Prop := freeCyclesUptoRow.holds Try.pinned (OpenSpec.upto freeCyclesSpec)

/-- 'timblaw1.ArtinImages', WHERE WHAT IT READS IS OF BULK AT MOST 1048576: true; the input reads as it did. -/
def artinImagesUptoRow : OpenClaim := { program := "ytpnamejmkfpeoaa", sum := "8fdb52ea8ddb61d0fe97de587ffa55a6ece552137d41a79dd1847bedc17c98ac", func := "timbrel/timblaw1.ArtinImages", spec := "artinImages", unfollowed := true, recurses := true, apart := false, narrowed := true }
def ArtinImagesUptoSaid : Prop := artinImagesUptoRow.holds Try.pinned (OpenSpec.upto artinImagesSpec)

/-- 'timblaw1.ArtinEquals', WHERE WHAT IT READS IS OF BULK AT MOST 1048576: true; the input reads as it did. -/
def artinEqualsUptoRow : OpenClaim := { program := "ytpnamejmkfpeoaa", sum := "8fdb52ea8ddb61d0fe97de587ffa55a6ece552137d41a79dd1847bedc17c98ac", func := "timbrel/timblaw1.ArtinEquals", spec := "artinEquals", unfollowed := true, recurses := true, apart := false, narrowed := true }
def ArtinEqualsUptoSaid : Prop := artinEqualsUptoRow.holds Try.pinned (OpenSpec.upto artinEqualsSpec)

end Rows
end Go.Proofs.Ytpnamejmkfpeoaa
