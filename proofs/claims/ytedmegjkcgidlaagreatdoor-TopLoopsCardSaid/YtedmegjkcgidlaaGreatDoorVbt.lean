/- A part of the proof of TopLoops: VxRowA. -/
import Derived.Test.YtedmegjkcgidlaaGreatDoorRows
import Derived.WalkKit
import Derived.ProofKit
import Derived.LaidLaws
import Derived.LaidHandle
import Derived.Stop.Joined
import Derived.Lay
import Derived.MakeChecks
noncomputable section
namespace Go.Proofs.YtedmegjkcgidlaaGreatDoor.topLoops
open Go.ChangeShapes Go.WideShapes Go.ChangeAt Go.RowKit
set_option maxRecDepth 100000
noncomputable abbrev W0 (os : Os) : World := (World.laidAll Tryz.prog os Rows.topLoopsRow.laid).forCall (fun _ _ => 0) ⟨#[], #[.int .u8 0], []⟩
theorem w1 (os : Os) : (W0 os).variablesZipB Tryz.prog = true := by kernel_rfl
end Go.Proofs.YtedmegjkcgidlaaGreatDoor.topLoops
end
