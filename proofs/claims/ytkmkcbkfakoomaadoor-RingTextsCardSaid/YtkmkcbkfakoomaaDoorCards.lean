/-
  DERIVED. GIVEN WITH THE SEED: THE CARDS: each row of YtkmkcbkfakoomaaDoorRows.lean that lists a variable, with what it lists TIED to the program's text (the seventh form; the later family's looks); each row that meets fmt, with fmt's text TOLD by the authors' own Lean function (tested against real Go, not proved from fmt's source: count such statements apart). THE CARD IS WHAT COUNTS. Prove the row's statement (the work); the ties are given (YtkmkcbkfakoomaaDoorTie.lean); close each card by the builder's one call (the guide's Derived/Test/ToyasCard.lean, 'card_holds'). Laid BY PROGRAM, IN A SANDBOX (cutbox-door.mjs). By AI agents, Wed Nov 11 2026. No macro, syntax, notation, axiom, sorry.
-/
import Derived.Test.YtkmkcbkfakoomaaDoorRows
import GoSem.ClaimSeven
namespace Go.Proofs.YtkmkcbkfakoomaaDoor
namespace Rows

/-- THE TIED CARD OF 'timblaw1.RingTexts'. -/
def ringTextsCard : Claim7 := { stood := { row := ringTextsRow, standIns := [], harness := (true, "c3dc78d87960186e14ccd23b4bd5ea78575bf4d4fe6671cddbff8599e5653893"), looks := false }, kinds := [], alts := [], laidByText := true, laidKinds := [.data, .data, .data, .data, .pinned], laidTests := true, laidLooks := .later }
def RingTextsCardSaid : Prop := Claim7.holds Tryd.pinned (.plain (OpenSpec.ofChange ringTextsSpec)) ringTextsCard

/-- THE SECOND FORM's CARD OF 'timblaw1.RingTexts'. -/
def ringTextsUptoCard : Claim7 := { stood := { row := ringTextsUptoRow, standIns := [], harness := (true, "c3dc78d87960186e14ccd23b4bd5ea78575bf4d4fe6671cddbff8599e5653893"), looks := false }, kinds := [], alts := [], laidByText := true, laidKinds := [.data, .data, .data, .data, .pinned], laidTests := true, laidLooks := .later }
def RingTextsUptoCardSaid : Prop := Claim7.holds Tryd.pinned (.plain (OpenSpec.upto ringTextsSpec)) ringTextsUptoCard
end Rows
end Go.Proofs.YtkmkcbkfakoomaaDoor
