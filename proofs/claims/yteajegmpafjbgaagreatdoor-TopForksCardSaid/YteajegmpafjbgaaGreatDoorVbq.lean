/- A part of the proof of TopForks. -/
import Derived.Test.YteajegmpafjbgaaGreatDoorRows
import Derived.WalkKit
import Derived.ProofKit
import Derived.LaidLaws
import Derived.LaidHandle
import Derived.Stop.Joined
import Derived.Lay
import Derived.MakeChecks
set_option maxRecDepth 1000000
set_option maxHeartbeats 80000000
noncomputable section
section
namespace Go.Proofs.YteajegmpafjbgaaGreatDoor.topForks
open Go.ChangeShapes Go.WideShapes Go.ChangeAt Go.RowKit
abbrev W0(os:Os):World:=(World.laidAll Tryz.prog os Rows.topForksRow.laid).forCall (λ_ _=>0) ⟨#[],#[.int .u8 0,.slice none 0 0],[]⟩
theorem w1(os:Os):(W0 os).variablesZipB Tryz.prog=true:=by kernel_rfl
end Go.Proofs.YteajegmpafjbgaaGreatDoor.topForks
end
