/-
  DERIVED. GIVEN WITH THE SEED: THE CARDS: each row of YtedmegjkcgidlaaGreatDoorRows.lean that lists a variable, with what it lists TIED to the program's text (the seventh form; the later family's looks); each row that meets fmt, with fmt's text TOLD by the authors' own Lean function (tested against real Go, not proved from fmt's source: count such statements apart). THE CARD IS WHAT COUNTS. Prove the row's statement (the work); the ties are given (YtedmegjkcgidlaaGreatDoorTie.lean); close each card by the builder's one call (the guide's Derived/Test/ToyasCard.lean, 'card_holds'). Laid BY PROGRAM, IN A SANDBOX (cutbox-door.mjs). By AI agents, Wed Nov 11 2026. No macro, syntax, notation, axiom, sorry.
-/
import Derived.Test.YtedmegjkcgidlaaGreatDoorRows
import GoSem.ClaimSeven
namespace Go.Proofs.YtedmegjkcgidlaaGreatDoor
namespace Rows

/-- THE TIED CARD OF 'dawdlertop.TopLoops'. -/
def topLoopsCard : Claim7 := { stood := { row := topLoopsRow, standIns := [], harness := (true, "93d5902ee5748136a39ef3ee58c245de75ac7a399a6019e1a4cb93c0e1309c34"), looks := true }, kinds := [], alts := [], laidByText := true, laidKinds := [.data, .data, .data, .data, .sentinel, .sentinel, .pinned], laidTests := true, laidLooks := .later }
def TopLoopsCardSaid : Prop := Claim7.holds Tryz.pinned (.plain (OpenSpec.ofChange topLoopsSpec)) topLoopsCard

/-- THE SECOND FORM's CARD OF 'dawdlertop.TopLoops'. -/
def topLoopsUptoCard : Claim7 := { stood := { row := topLoopsUptoRow, standIns := [], harness := (true, "93d5902ee5748136a39ef3ee58c245de75ac7a399a6019e1a4cb93c0e1309c34"), looks := true }, kinds := [], alts := [], laidByText := true, laidKinds := [.data, .data, .data, .data, .sentinel, .sentinel, .pinned], laidTests := true, laidLooks := .later }
def TopLoopsUptoCardSaid : Prop := Claim7.holds Tryz.pinned (.plain (OpenSpec.upto topLoopsSpec)) topLoopsUptoCard
end Rows
end Go.Proofs.YtedmegjkcgidlaaGreatDoor
