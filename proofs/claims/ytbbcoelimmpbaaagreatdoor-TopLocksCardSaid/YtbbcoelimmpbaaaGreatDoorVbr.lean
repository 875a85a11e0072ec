/- A part of the proof of TopLocks. -/
import Derived.Test.YtbbcoelimmpbaaaGreatDoorRows
import Derived.WalkKit
import Derived.ProofKit
import Derived.LaidLaws
import Derived.LaidHandle
import Derived.Stop.Joined
import Derived.Lay
import Derived.MakeChecks
set_option maxRecDepth 1000000
noncomputable section
section
namespace Go.Proofs.YtbbcoelimmpbaaaGreatDoor.topLocks
open Go.ChangeShapes Go.WideShapes Go.ChangeAt Go.RowKit
set_option maxRecDepth 100000
noncomputable abbrev W0 (os:Os):World:=(World.laidAll Tryz.prog os Rows.topLocksRow.laid).forCall (fun _ _=>0) ⟨#[],#[.int .u8 0,.slice none 0 0],[]⟩
theorem w1 (os:Os):(W0 os).variablesZipB Tryz.prog=true:=by kernel_rfl
end Go.Proofs.YtbbcoelimmpbaaaGreatDoor.topLocks
end
