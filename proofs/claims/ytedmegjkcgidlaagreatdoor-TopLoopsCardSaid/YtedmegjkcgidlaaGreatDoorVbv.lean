/- A part of the proof of TopLoops: VxRowC. -/
import Derived.Test.YtedmegjkcgidlaaGreatDoorRows
import Derived.WalkKit
import Derived.ProofKit
import Derived.LaidLaws
import Derived.LaidHandle
import Derived.Stop.Joined
import Derived.Lay
import Derived.MakeChecks
import Derived.Test.YtedmegjkcgidlaaGreatDoorVbu
noncomputable section
namespace Go.Proofs.YtedmegjkcgidlaaGreatDoor.topLoops
open Go.ChangeShapes Go.WideShapes Go.ChangeAt Go.RowKit
set_option maxRecDepth 100000
theorem laid_world (os : Os) (args : Array Value) : laidMet Tryz.prog Rows.topLoopsRow.laid ((World.laidAll Tryz.prog os Rows.topLoopsRow.laid).forCall (fun _ _ => 0) ⟨#[], args, []⟩).memory :=
  laidMet_laidAll _ (by kernel_rfl) (by kernel_rfl)

end Go.Proofs.YtedmegjkcgidlaaGreatDoor.topLoops
end
