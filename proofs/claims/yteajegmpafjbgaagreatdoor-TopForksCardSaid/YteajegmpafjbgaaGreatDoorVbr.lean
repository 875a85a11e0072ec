/- A part of the proof of TopForks. -/
import Derived.Test.YteajegmpafjbgaaGreatDoorRows
import Derived.WalkKit
import Derived.ProofKit
import Derived.LaidLaws
import Derived.LaidHandle
import Derived.Stop.Joined
import Derived.Lay
import Derived.MakeChecks
import Derived.Test.YteajegmpafjbgaaGreatDoorVbq
set_option maxRecDepth 1000000
set_option maxHeartbeats 80000000
noncomputable section
section
namespace Go.Proofs.YteajegmpafjbgaaGreatDoor.topForks
open Go.ChangeShapes Go.WideShapes Go.ChangeAt Go.RowKit
theorem w2(os:Os):((W0 os).heap.toList.drop Tryz.prog.globals.size).take ((begin Tryz.prog (λ_ _=>0) default).world.heap.size-Tryz.prog.globals.size)=(begin Tryz.prog (λ_ _=>0) default).world.heap.toList.drop Tryz.prog.globals.size:=by kernel_rfl
end Go.Proofs.YteajegmpafjbgaaGreatDoor.topForks
end
