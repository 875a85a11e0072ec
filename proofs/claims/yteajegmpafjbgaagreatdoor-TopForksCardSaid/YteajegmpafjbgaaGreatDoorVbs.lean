/- A part of the proof of TopForks. -/
import Derived.Test.YteajegmpafjbgaaGreatDoorRows
import Derived.WalkKit
import Derived.ProofKit
import Derived.LaidLaws
import Derived.LaidHandle
import Derived.Stop.Joined
import Derived.Lay
import Derived.MakeChecks
import Derived.Test.YteajegmpafjbgaaGreatDoorVbr
set_option maxRecDepth 1000000
set_option maxHeartbeats 80000000
noncomputable section
section
namespace Go.Proofs.YteajegmpafjbgaaGreatDoor.topForks
open Go.ChangeShapes Go.WideShapes Go.ChangeAt Go.RowKit
theorem ac3(os:Os)(args:Array Value):laidMet Tryz.prog Rows.topForksRow.laid ((World.laidAll Tryz.prog os Rows.topForksRow.laid).forCall (λ_ _=>0) ⟨#[],args,[]⟩).memory :=
 laidMet_laidAll _ (by kernel_rfl) (by kernel_rfl)
end Go.Proofs.YteajegmpafjbgaaGreatDoor.topForks
end
