/- A part of the proof of TopLoops: VxRowD. -/
import Derived.Test.YtedmegjkcgidlaaGreatDoorRows
import Derived.WalkKit
import Derived.ProofKit
import Derived.JoinedOf
noncomputable section
namespace Go.Proofs.YtedmegjkcgidlaaGreatDoor.topLoops
open Go.ChangeShapes Go.WideShapes Go.ChangeAt Go.RowKit
set_option maxRecDepth 100000
theorem c1 : (Rows.topLoopsRow.inPlace == Tryz.pinned.checked.prog.inPlace 3) = true := by kernel_rfl
theorem c2 : (Rows.topLoopsRow.unfollowed == Tryz.pinned.checked.prog.unfollowed 3) = true := by kernel_rfl
theorem c3 : (Rows.topLoopsRow.recurses == Tryz.pinned.checked.prog.recurses 3) = true := by kernel_rfl
theorem c4 : (Rows.topLoopsRow.named == Tryz.pinned.checked.prog.varsNamed 3) = true := by kernel_rfl
theorem c5 : laidOutB Tryz.pinned.checked.prog = true := by kernel_rfl
theorem c6 : mapsRowed Tryz.pinned.checked.prog = true := by kernel_rfl
theorem closed : joinedFacts Tryz.pinned.checked.prog 3 Tryz.f3 Rows.topLoopsSpec Rows.topLoopsRow = true := by
  unfold joinedFacts
  rw [c1, c2, c3, c4, c5, c6]
  kernel_rfl
end Go.Proofs.YtedmegjkcgidlaaGreatDoor.topLoops
end
