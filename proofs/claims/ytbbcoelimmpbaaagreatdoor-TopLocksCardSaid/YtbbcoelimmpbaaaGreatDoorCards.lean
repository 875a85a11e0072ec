/-
  DERIVED. GIVEN WITH THE SEED: THE CARDS: each row of YtbbcoelimmpbaaaGreatDoorRows.lean that lists a variable, with what it lists TIED to the program's text (the seventh form; the later family's looks); each row that meets fmt, with fmt's text TOLD by the authors' own Lean function (tested against real Go, not proved from fmt's source: count such statements apart). THE CARD IS WHAT COUNTS. Prove the row's statement (the work); the ties are given (YtbbcoelimmpbaaaGreatDoorTie.lean); close each card by the builder's one call (the guide's Derived/Test/ToyasCard.lean, 'card_holds'). Laid BY PROGRAM, IN A SANDBOX (cutbox-door.mjs). By AI agents, Wed Nov 11 2026. No macro, syntax, notation, axiom, sorry.
-/
import Derived.Test.YtbbcoelimmpbaaaGreatDoorRows
import GoSem.ClaimSeven
namespace Go.Proofs.YtbbcoelimmpbaaaGreatDoor
namespace Rows

/-- THE TIED CARD OF 'dawdlertop.TopLocks'. -/
def topLocksCard : Claim7 := { stood := { row := topLocksRow, standIns := [], harness := (true, "90c4c05d66984cc3d04631b1d6b980096e21bbed50bde6183155cba000c12932"), looks := true }, kinds := [], alts := [], laidByText := true, laidKinds := [.data, .data, .data, .data, .sentinel, .sentinel, .pinned], laidTests := true, laidLooks := .later }
def TopLocksCardSaid : Prop := Claim7.holds Tryz.pinned (.plain (OpenSpec.ofChange topLocksSpec)) topLocksCard

/-- THE SECOND FORM's CARD OF 'dawdlertop.TopLocks'. -/
def topLocksUptoCard : Claim7 := { stood := { row := topLocksUptoRow, standIns := [], harness := (true, "90c4c05d66984cc3d04631b1d6b980096e21bbed50bde6183155cba000c12932"), looks := true }, kinds := [], alts := [], laidByText := true, laidKinds := [.data, .data, .data, .data, .sentinel, .sentinel, .pinned], laidTests := true, laidLooks := .later }
def TopLocksUptoCardSaid : Prop := Claim7.holds Tryz.pinned (.plain (OpenSpec.upto topLocksSpec)) topLocksUptoCard
end Rows
end Go.Proofs.YtbbcoelimmpbaaaGreatDoor
