/-
  DERIVED. GIVEN WITH THE SEED: THE CARDS: each row of YteajegmpafjbgaaGreatDoorRows.lean that lists a variable, with what it lists TIED to the program's text (the seventh form; the later family's looks); each row that meets fmt, with fmt's text TOLD by the authors' own Lean function (tested against real Go, not proved from fmt's source: count such statements apart). THE CARD IS WHAT COUNTS. Prove the row's statement (the work); the ties are given (YteajegmpafjbgaaGreatDoorTie.lean); close each card by the builder's one call (the guide's Derived/Test/ToyasCard.lean, 'card_holds'). Laid BY PROGRAM, IN A SANDBOX (cutbox-door.mjs). By AI agents, Wed Nov 11 2026. No macro, syntax, notation, axiom, sorry.
-/
import Derived.Test.YteajegmpafjbgaaGreatDoorRows
import GoSem.ClaimSeven
namespace Go.Proofs.YteajegmpafjbgaaGreatDoor
namespace Rows

/-- THE TIED CARD OF 'dawdlertop.TopForks'. -/
def topForksCard : Claim7 := { stood := { row := topForksRow, standIns := [], harness := (true, "53add5794ab47f5123c49dd27045ada33fbb08389059a264d8cbe96dfe3d1818"), looks := true }, kinds := [], alts := [], laidByText := true, laidKinds := [.data, .data, .data, .data, .sentinel, .sentinel, .pinned], laidTests := true, laidLooks := .later }
def TopForksCardSaid : Prop := Claim7.holds Tryz.pinned (.plain (OpenSpec.ofChange topForksSpec)) topForksCard

/-- THE SECOND FORM's CARD OF 'dawdlertop.TopForks'. -/
def topForksUptoCard : Claim7 := { stood := { row := topForksUptoRow, standIns := [], harness := (true, "53add5794ab47f5123c49dd27045ada33fbb08389059a264d8cbe96dfe3d1818"), looks := true }, kinds := [], alts := [], laidByText := true, laidKinds := [.data, .data, .data, .data, .sentinel, .sentinel, .pinned], laidTests := true, laidLooks := .later }
def TopForksUptoCardSaid : Prop := Claim7.holds Tryz.pinned (.plain (OpenSpec.upto topForksSpec)) topForksUptoCard
end Rows
end Go.Proofs.YteajegmpafjbgaaGreatDoor
