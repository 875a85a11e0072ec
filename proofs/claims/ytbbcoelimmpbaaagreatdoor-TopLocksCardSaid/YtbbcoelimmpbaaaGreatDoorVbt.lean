/- A part of the proof of TopLocks. -/
import Derived.Test.YtbbcoelimmpbaaaGreatDoorRows
import Derived.WalkKit
import Derived.ProofKit
import Derived.LaidLaws
import Derived.LaidHandle
import Derived.Stop.Joined
import Derived.Lay
import Derived.MakeChecks
import Derived.Test.YtbbcoelimmpbaaaGreatDoorVbs
set_option maxRecDepth 1000000
noncomputable section
section
namespace Go.Proofs.YtbbcoelimmpbaaaGreatDoor.topLocks
open Go.ChangeShapes Go.WideShapes Go.ChangeAt Go.RowKit
set_option maxRecDepth 100000
theorem XI (os:Os) (args:Array Value):laidMet Tryz.prog Rows.topLocksRow.laid ((World.laidAll Tryz.prog os Rows.topLocksRow.laid).forCall (fun _ _=>0) ⟨#[],args,[]⟩).memory :=
 laidMet_laidAll _ (by kernel_rfl) (by kernel_rfl)
end Go.Proofs.YtbbcoelimmpbaaaGreatDoor.topLocks
end
