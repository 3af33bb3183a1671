/-
  No cell of these rows narrows 'for every input' (looked for: loops, veiled, ifaces, maps, wideKeys, modest, calm, conditions, laid).
  DERIVED. THE GIVEN ROWS OF THIS SEAT. 11 by the template 'for every input the law returns true; each argument reads behind the call as it read before'; 0 by the template 'total and deterministic' (their statements: YtgjfpmjllpgadaaTotals.lean).
  GIVEN WITH THE SEED: the statements are not yours to turn. If you find one false, say at which input.
  Laid BY PROGRAM, IN A SANDBOX (cutbox-rows.mjs): the forced cells as the released guide's own fill.sh prints them over the translation f21d3bb64343a9a7… (all of the seat's roots in one cut). By AI agents, Wed Nov 11 2026. No macro, syntax, notation, axiom, sorry.
-/
import Derived.Test.YtgjfpmjllpgadaaChecked
import GoSem.Claim
import GoSem.ClaimJoined
import GoSem.ClaimMapViews
import Derived.JoinedTies
import Derived.KernelRfl
namespace Go.Proofs.Ytgjfpmjllpgadaa
/- THE CELL 'sum', in the pinned program and in every row, IS THE sha256 OF THE DUMP (.gsa) THAT YtgjfpmjllpgadaaProg.lean LOADS. Nothing in Lean hashes anything: it is a label: what it is worth is what the hold of that sum in a sandbox is worth. -/
noncomputable def Try.pinned : Pinned := { name := "ytgjfpmjllpgadaa", sum := "f21d3bb64343a9a79e2182a2e3eb134eb3040acf0955d076c0c7f48c3b6dd333", checked := Try.checked }
namespace Rows
def none {H : Type} : Left H := { results := [], args := [] }

/-- 'timblaw1.BraidChecks': WHATEVER THE INPUT: true; the input reads as it did. -/
def braidChecksSpec : ChangeSpec := { name := "braidChecks", fn := fun _ => fun
  | [d1, d2] => { results := [.lit (.bool true)], args := [d1, d2] }
  | _ => none }
def braidChecksRow : OpenClaim := { program := "ytgjfpmjllpgadaa", sum := "f21d3bb64343a9a79e2182a2e3eb134eb3040acf0955d076c0c7f48c3b6dd333", func := "timbrel/timblaw1.BraidChecks", spec := "braidChecks", unfollowed := true, recurses := true, apart := false }
def BraidChecksSaid : Prop := braidChecksRow.holds Try.pinned (OpenSpec.ofChange braidChecksSpec)

/-- ITS FALSE NEIGHBOUR: 'it returns false'. Refute it at one input. -/
def braidChecksWrong : ChangeSpec := { name := "braidChecks", fn := fun _ => fun
  | [d1, d2] => { results := [.lit (.bool false)], args := [d1, d2] }
  | _ => none }
def BraidChecksWrongFalsely : Prop := braidChecksRow.holds Try.pinned (OpenSpec.ofChange braidChecksWrong)

/-- 'timblaw1.BraidBuraus': WHATEVER THE INPUT: true; the input reads as it did. -/
def braidBurausSpec : ChangeSpec := { name := "braidBuraus", fn := fun _ => fun
  | [d1, d2] => { results := [.lit (.bool true)], args := [d1, d2] }
  | _ => none }
def braidBurausRow : OpenClaim := { program := "ytgjfpmjllpgadaa", sum := "f21d3bb64343a9a79e2182a2e3eb134eb3040acf0955d076c0c7f48c3b6dd333", func := "timbrel/timblaw1.BraidBuraus", spec := "braidBuraus", unfollowed := true, recurses := true, apart := false }
def BraidBurausSaid : Prop := braidBurausRow.holds Try.pinned (OpenSpec.ofChange braidBurausSpec)

/-- ITS FALSE NEIGHBOUR: 'it returns false'. Refute it at one input. -/
def braidBurausWrong : ChangeSpec := { name := "braidBuraus", fn := fun _ => fun
  | [d1, d2] => { results := [.lit (.bool false)], args := [d1, d2] }
  | _ => none }
def BraidBurausWrongFalsely : Prop := braidBurausRow.holds Try.pinned (OpenSpec.ofChange braidBurausWrong)

/-- 'timblaw1.DehornoyReduces': WHATEVER THE INPUT: true; the input reads as it did. -/
def dehornoyReducesSpec : ChangeSpec := { name := "dehornoyReduces", fn := fun _ => fun
  | [d1, d2] => { results := [.lit (.bool true)], args := [d1, d2] }
  | _ => none }
def dehornoyReducesRow : OpenClaim := { program := "ytgjfpmjllpgadaa", sum := "f21d3bb64343a9a79e2182a2e3eb134eb3040acf0955d076c0c7f48c3b6dd333", func := "timbrel/timblaw1.DehornoyReduces", spec := "dehornoyReduces", unfollowed := true, recurses := true, apart := false }
def DehornoyReducesSaid : Prop := dehornoyReducesRow.holds Try.pinned (OpenSpec.ofChange dehornoyReducesSpec)

/-- ITS FALSE NEIGHBOUR: 'it returns false'. Refute it at one input. -/
def dehornoyReducesWrong : ChangeSpec := { name := "dehornoyReduces", fn := fun _ => fun
  | [d1, d2] => { results := [.lit (.bool false)], args := [d1, d2] }
  | _ => none }
def DehornoyReducesWrongFalsely : Prop := dehornoyReducesRow.holds Try.pinned (OpenSpec.ofChange dehornoyReducesWrong)

/-- 'timblaw1.DehornoyCompares': WHATEVER THE INPUT: true; the input reads as it did. -/
def dehornoyComparesSpec : ChangeSpec := { name := "dehornoyCompares", fn := fun _ => fun
  | [d1, d2, d3] => { results := [.lit (.bool true)], args := [d1, d2, d3] }
  | _ => none }
def dehornoyComparesRow : OpenClaim := { program := "ytgjfpmjllpgadaa", sum := "f21d3bb64343a9a79e2182a2e3eb134eb3040acf0955d076c0c7f48c3b6dd333", func := "timbrel/timblaw1.DehornoyCompares", spec := "dehornoyCompares", unfollowed := true, recurses := true, apart := false }
def DehornoyComparesSaid : Prop := dehornoyComparesRow.holds Try.pinned (OpenSpec.ofChange dehornoyComparesSpec)

/-- ITS FALSE NEIGHBOUR: 'it returns false'. Refute it at one input. -/
def dehornoyComparesWrong : ChangeSpec := { name := "dehornoyCompares", fn := fun _ => fun
  | [d1, d2, d3] => { results := [.lit (.bool false)], args := [d1, d2, d3] }
  | _ => none }
def DehornoyComparesWrongFalsely : Prop := dehornoyComparesRow.holds Try.pinned (OpenSpec.ofChange dehornoyComparesWrong)

/-- 'timblaw1.ColorCounts': WHATEVER THE INPUT: true; the input reads as it did. -/
def colorCountsSpec : ChangeSpec := { name := "colorCounts", fn := fun _ => fun
  | [d1, d2, d3, d4] => { results := [.lit (.bool true)], args := [d1, d2, d3, d4] }
  | _ => none }
def colorCountsRow : OpenClaim := { program := "ytgjfpmjllpgadaa", sum := "f21d3bb64343a9a79e2182a2e3eb134eb3040acf0955d076c0c7f48c3b6dd333", func := "timbrel/timblaw1.ColorCounts", spec := "colorCounts", unfollowed := true, recurses := true, apart := false }
def ColorCountsSaid : Prop := colorCountsRow.holds Try.pinned (OpenSpec.ofChange colorCountsSpec)

/-- ITS FALSE NEIGHBOUR: 'it returns false'. Refute it at one input. -/
def colorCountsWrong : ChangeSpec := { name := "colorCounts", fn := fun _ => fun
  | [d1, d2, d3, d4] => { results := [.lit (.bool false)], args := [d1, d2, d3, d4] }
  | _ => none }
def ColorCountsWrongFalsely : Prop := colorCountsRow.holds Try.pinned (OpenSpec.ofChange colorCountsWrong)

/-- 'timblaw1.LinkParts': WHATEVER THE INPUT: true; the input reads as it did. -/
def linkPartsSpec : ChangeSpec := { name := "linkParts", fn := fun _ => fun
  | [d1, d2] => { results := [.lit (.bool true)], args := [d1, d2] }
  | _ => none }
def linkPartsRow : OpenClaim := { program := "ytgjfpmjllpgadaa", sum := "f21d3bb64343a9a79e2182a2e3eb134eb3040acf0955d076c0c7f48c3b6dd333", func := "timbrel/timblaw1.LinkParts", spec := "linkParts", unfollowed := true, recurses := true, apart := false }
def LinkPartsSaid : Prop := linkPartsRow.holds Try.pinned (OpenSpec.ofChange linkPartsSpec)

/-- ITS FALSE NEIGHBOUR: 'it returns false'. Refute it at one input. -/
def linkPartsWrong : ChangeSpec := { name := "linkParts", fn := fun _ => fun
  | [d1, d2] => { results := [.lit (.bool false)], args := [d1, d2] }
  | _ => none }
def LinkPartsWrongFalsely : Prop := linkPartsRow.holds Try.pinned (OpenSpec.ofChange linkPartsWrong)

/-- 'timblaw1.GarsideEquals': WHATEVER THE INPUT: true; the input reads as it did. -/
def garsideEqualsSpec : ChangeSpec := { name := "garsideEquals", fn := fun _ => fun
  | [d1, d2, d3] => { results := [.lit (.bool true)], args := [d1, d2, d3] }
  | _ => none }
def garsideEqualsRow : OpenClaim := { program := "ytgjfpmjllpgadaa", sum := "f21d3bb64343a9a79e2182a2e3eb134eb3040acf0955d076c0c7f48c3b6dd333", func := "timbrel/timblaw1.GarsideEquals", spec := "garsideEquals", unfollowed := true, recurses := true, apart := false }
def GarsideEqualsSaid : Prop := garsideEqualsRow.holds Try.pinned (OpenSpec.ofChange garsideEqualsSpec)

/-- ITS FALSE NEIGHBOUR: 'it returns false'. Refute it at one input. -/
def garsideEqualsWrong : ChangeSpec := { name := "garsideEquals", fn := fun _ => fun
  | [d1, d2, d3] => { results := [.lit (.bool false)], args := [d1, d2, d3] }
  | _ => none }
def GarsideEqualsWrongFalsely : Prop := garsideEqualsRow.holds Try.pinned (OpenSpec.ofChange garsideEqualsWrong)

/-- 'timblaw1.GarsideForms': WHATEVER THE INPUT: true; the input reads as it did. -/
def garsideFormsSpec : ChangeSpec := { name := "garsideForms", fn := fun _ => fun
  | [d1, d2] => { results := [.lit (.bool true)], args := [d1, d2] }
  | _ => none }
def garsideFormsRow : OpenClaim := { program := "ytgjfpmjllpgadaa", sum := "f21d3bb64343a9a79e2182a2e3eb134eb3040acf0955d076c0c7f48c3b6dd333", func := "timbrel/timblaw1.GarsideForms", spec := "garsideForms", unfollowed := true, recurses := true, apart := false }
def GarsideFormsSaid : Prop := garsideFormsRow.holds Try.pinned (OpenSpec.ofChange garsideFormsSpec)

/-- ITS FALSE NEIGHBOUR: 'it returns false'. Refute it at one input. -/
def garsideFormsWrong : ChangeSpec := { name := "garsideForms", fn := fun _ => fun
  | [d1, d2] => { results := [.lit (.bool false)], args := [d1, d2] }
  | _ => none }
def GarsideFormsWrongFalsely : Prop := garsideFormsRow.holds Try.pinned (OpenSpec.ofChange garsideFormsWrong)

/-- 'timblaw1.GarsideWords': WHATEVER THE INPUT: true; the input reads as it did. -/
def garsideWordsSpec : ChangeSpec := { name := "garsideWords", fn := fun _ => fun
  | [d1, d2, d3] => { results := [.lit (.bool true)], args := [d1, d2, d3] }
  | _ => none }
def garsideWordsRow : OpenClaim := { program := "ytgjfpmjllpgadaa", sum := "f21d3bb64343a9a79e2182a2e3eb134eb3040acf0955d076c0c7f48c3b6dd333", func := "timbrel/timblaw1.GarsideWords", spec := "garsideWords", unfollowed := true, recurses := true, apart := false }
def GarsideWordsSaid : Prop := garsideWordsRow.holds Try.pinned (OpenSpec.ofChange garsideWordsSpec)

/-- ITS FALSE NEIGHBOUR: 'it returns false'. Refute it at one input. -/
def garsideWordsWrong : ChangeSpec := { name := "garsideWords", fn := fun _ => fun
  | [d1, d2, d3] => { results := [.lit (.bool false)], args := [d1, d2, d3] }
  | _ => none }
def GarsideWordsWrongFalsely : Prop := garsideWordsRow.holds Try.pinned (OpenSpec.ofChange garsideWordsWrong)

/-- 'timbtop.TopPermutationBraids': WHATEVER THE INPUT: true; the input reads as it did. -/
def topPermutationBraidsSpec : ChangeSpec := { name := "topPermutationBraids", fn := fun _ => fun
  | [d1, d2] => { results := [.lit (.bool true)], args := [d1, d2] }
  | _ => none }
def topPermutationBraidsRow : OpenClaim := { program := "ytgjfpmjllpgadaa", sum := "f21d3bb64343a9a79e2182a2e3eb134eb3040acf0955d076c0c7f48c3b6dd333", func := "timbrel/timbtop.TopPermutationBraids", spec := "topPermutationBraids", unfollowed := true, recurses := true, apart := false }
def TopPermutationBraidsSaid : Prop := topPermutationBraidsRow.holds Try.pinned (OpenSpec.ofChange topPermutationBraidsSpec)

/-- ITS FALSE NEIGHBOUR: 'it returns false'. Refute it at one input. -/
def topPermutationBraidsWrong : ChangeSpec := { name := "topPermutationBraids", fn := fun _ => fun
  | [d1, d2] => { results := [.lit (.bool false)], args := [d1, d2] }
  | _ => none }
def TopPermutationBraidsWrongFalsely : Prop := topPermutationBraidsRow.holds Try.pinned (OpenSpec.ofChange topPermutationBraidsWrong)

/-- 'timbtop.TopCrossings': WHATEVER THE INPUT: true; the input reads as it did. -/
def topCrossingsSpec : ChangeSpec := { name := "topCrossings", fn := fun _ => fun
  | [d1, d2, d3] => { results := [.lit (.bool true)], args := [d1, d2, d3] }
  | _ => none }
def topCrossingsRow : OpenClaim := { program := "ytgjfpmjllpgadaa", sum := "f21d3bb64343a9a79e2182a2e3eb134eb3040acf0955d076c0c7f48c3b6dd333", func := "timbrel/timbtop.TopCrossings", spec := "topCrossings", unfollowed := true, recurses := true, apart := false }
def TopCrossingsSaid : Prop := topCrossingsRow.holds Try.pinned (OpenSpec.ofChange topCrossingsSpec)

/-- ITS FALSE NEIGHBOUR: 'it returns false'. Refute it at one input. -/
def topCrossingsWrong : ChangeSpec := { name := "topCrossings", fn := fun _ => fun
  | [d1, d2, d3] => { results := [.lit (.bool false)], args := [d1, d2, d3] }
  | _ => none }
def TopCrossingsWrongFalsely : Prop := topCrossingsRow.holds Try.pinned (OpenSpec.ofChange topCrossingsWrong)

/- THE SECOND FORM. 'bulk': how many values and letters a reading holds, each counted each time it is reached (what is shared counts as often as it is met; a slice's spare places count too). A statement '..UptoSaid' is the law's where the arguments, and the package variables that the reading takes, are together of bulk at most 1048576: NARROWER than '..Said'. Prove '..Said' where nothing that the law and all that it calls make is longer than what came in: it says more and counts as full. Else prove '..UptoSaid'. A law counts once. -/
mutual
def uptoBulk {H : Type} : DataW H → Nat
  | .lit (.string bytes) => bytes.length + 1
  | .lit _ => 1
  | .nil => 1
  | .ptr d => uptoBulk d + 1
  | .slice elems spare => uptoBulkAll elems + uptoBulkAll spare + 1
  | .agg parts => uptoBulkAll parts + 1
  | .iface _ d => uptoBulk d + 1
  | .map entries => uptoBulkEntries entries + 1
  | .held _ => 1
def uptoBulkAll {H : Type} : List (DataW H) → Nat
  | [] => 0
  | d :: r => uptoBulk d + uptoBulkAll r
def uptoBulkEntries {H : Type} : List (Lit × DataW H) → Nat
  | [] => 0
  | x :: r => uptoBulkEntry x + uptoBulkEntries r
def uptoBulkEntry {H : Type} : Lit × DataW H → Nat
  | (.string bytes, d) => bytes.length + uptoBulk d + 1
  | (_, d) => uptoBulk d + 1
 end
def uptoSmall : (H : Type) → List (DataW H) → Bool := fun _ ds => decide (uptoBulkAll ds ≤ 1048576)
def OpenSpec.upto (s : _root_.Go.ChangeSpec) : _root_.Go.OpenSpec := { _root_.Go.OpenSpec.ofChange s with cond := some uptoSmall }

/-- 'timblaw1.BraidChecks', WHERE WHAT IT READS IS OF BULK AT MOST 1048576: true; the input reads as it did. -/
def braidChecksUptoRow : OpenClaim := { program := "ytgjfpmjllpgadaa", sum := "f21d3bb64343a9a79e2182a2e3eb134eb3040acf0955d076c0c7f48c3b6dd333", func := "timbrel/timblaw1.BraidChecks", spec := "braidChecks", unfollowed := true, recurses := true, apart := false, narrowed := true }
def BraidChecksUptoSaid : Prop := braidChecksUptoRow.holds Try.pinned (OpenSpec.upto braidChecksSpec)

/-- 'timblaw1.BraidBuraus', WHERE WHAT IT READS IS OF BULK AT MOST 1048576: true; the input reads as it did. -/
def braidBurausUptoRow : OpenClaim := { program := "ytgjfpmjllpgadaa", sum := "f21d3bb64343a9a79e2182a2e3eb134eb3040acf0955d076c0c7f48c3b6dd333", func := "timbrel/timblaw1.BraidBuraus", spec := "braidBuraus", unfollowed := true, recurses := true, apart := false, narrowed := true }
def BraidBurausUptoSaid : Prop := braidBurausUptoRow.holds Try.pinned (OpenSpec.upto braidBurausSpec)

/-- 'timblaw1.DehornoyReduces', WHERE WHAT IT READS IS OF BULK AT MOST 1048576: true; the input reads as it did. -/
def dehornoyReducesUptoRow : OpenClaim := { program := "ytgjfpmjllpgadaa", sum := "f21d3bb64343a9a79e2182a2e3eb134eb3040acf0955d076c0c7f48c3b6dd333", func := "timbrel/timblaw1.DehornoyReduces", spec := "dehornoyReduces", unfollowed := true, recurses := true, apart := false, narrowed := true }
def DehornoyReducesUptoSaid : Prop := dehornoyReducesUptoRow.holds Try.pinned (OpenSpec.upto dehornoyReducesSpec)

/-- 'timblaw1.DehornoyCompares', WHERE WHAT IT READS IS OF BULK AT MOST 1048576: true; the input reads as it did. -/
def dehornoyComparesUptoRow : OpenClaim := { program := "ytgjfpmjllpgadaa", sum := "f21d3bb64343a9a79e2182a2e3eb134eb3040acf0955d076c0c7f48c3b6dd333", func := "timbrel/timblaw1.DehornoyCompares", spec := "dehornoyCompares", unfollowed := true, recurses := true, apart := false, narrowed := true }
def DehornoyComparesUptoSaid : Prop := dehornoyComparesUptoRow.holds Try.pinned (OpenSpec.upto dehornoyComparesSpec)

/-- 'timblaw1.ColorCounts', WHERE WHAT IT READS IS OF BULK AT MOST 1048576: true; the input reads as it did. -/
def colorCountsUptoRow : OpenClaim := { program := "ytgjfpmjllpgadaa", sum := "f21d3bb64343a9a79e2182a2e3eb134eb3040acf0955d076c0c7f48c3b6dd333", func := "timbrel/timblaw1.ColorCounts", spec := "colorCounts", unfollowed := true, recurses := true, apart := false, narrowed := true }
def ColorCountsUptoSaid : Prop := colorCountsUptoRow.holds Try.pinned (OpenSpec.upto colorCountsSpec)

/-- 'timblaw1.LinkParts', WHERE WHAT IT READS IS OF BULK AT MOST 1048576: true; the input reads as it did. -/
def linkPartsUptoRow : OpenClaim := { program := "ytgjfpmjllpgadaa", sum := "f21d3bb64343a9a79e2182a2e3eb134eb3040acf0955d076c0c7f48c3b6dd333", func := "timbrel/timblaw1.LinkParts", spec := "linkParts", unfollowed := true, recurses := true, apart := false, narrowed := true }
def LinkPartsUptoSaid : Prop := linkPartsUptoRow.holds Try.pinned (OpenSpec.upto linkPartsSpec)

/-- 'timblaw1.GarsideEquals', WHERE WHAT IT READS IS OF BULK AT MOST 1048576: true; the input reads as it did. -/
def garsideEqualsUptoRow : OpenClaim := { program := "ytgjfpmjllpgadaa", sum := "f21d3bb64343a9a79e2182a2e3eb134eb3040acf0955d076c0c7f48c3b6dd333", func := "timbrel/timblaw1.GarsideEquals", spec := "garsideEquals", unfollowed := true, recurses := true, apart := false, narrowed := true }
def GarsideEqualsUptoSaid : Prop := garsideEqualsUptoRow.holds Try.pinned (OpenSpec.upto garsideEqualsSpec)

/-- 'timblaw1.GarsideForms', WHERE WHAT IT READS IS OF BULK AT MOST 1048576: true; the input reads as it did. -/
def garsideFormsUptoRow : OpenClaim := { program := "ytgjfpmjllpgadaa", sum := "f21d3bb64343a9a79e2182a2e3eb134eb3040acf0955d076c0c7f48c3b6dd333", func := "timbrel/timblaw1.GarsideForms", spec := "garsideForms", unfollowed := true, recurses := true, apart := false, narrowed := true }
def GarsideFormsUptoSaid : Prop := garsideFormsUptoRow.holds Try.pinned (OpenSpec.upto garsideFormsSpec)

/-- 'timblaw1.GarsideWords', WHERE WHAT IT READS IS OF BULK AT MOST 1048576: true; the input reads as it did. -/
def garsideWordsUptoRow : OpenClaim := { program := "ytgjfpmjllpgadaa", sum := "f21d3bb64343a9a79e2182a2e3eb134eb3040acf0955d076c0c7f48c3b6dd333", func := "timbrel/timblaw1.GarsideWords", spec := "garsideWords", unfollowed := true, recurses := true, apart := false, narrowed := true }
def GarsideWordsUptoSaid : Prop := garsideWordsUptoRow.holds Try.pinned (OpenSpec.upto garsideWordsSpec)

/-- 'timbtop.TopPermutationBraids', WHERE WHAT IT READS IS OF BULK AT MOST 1048576: true; the input reads as it did. -/
def topPermutationBraidsUptoRow : OpenClaim := { program := "ytgjfpmjllpgadaa", sum := "f21d3bb64343a9a79e2182a2e3eb134eb3040acf0955d076c0c7f48c3b6dd333", func := "timbrel/timbtop.TopPermutationBraids", spec := "topPermutationBraids", unfollowed := true, recurses := true, apart := false, narrowed := true }
def TopPermutationBraidsUptoSaid : Prop := topPermutationBraidsUptoRow.holds Try.pinned (OpenSpec.upto topPermutationBraidsSpec)

/-- 'timbtop.TopCrossings', WHERE WHAT IT READS IS OF BULK AT MOST 1048576: true; the input reads as it did. -/
def topCrossingsUptoRow : OpenClaim := { program := "ytgjfpmjllpgadaa", sum := "f21d3bb64343a9a79e2182a2e3eb134eb3040acf0955d076c0c7f48c3b6dd333", func := "timbrel/timbtop.TopCrossings", spec := "topCrossings", unfollowed := true, recurses := true, apart := false, narrowed := true }
def TopCrossingsUptoSaid : Prop := topCrossingsUptoRow.holds Try.pinned (OpenSpec.upto topCrossingsSpec)

end Rows
end Go.Proofs.Ytgjfpmjllpgadaa
