/- A part of the proof of TopLoops: VxAK1. -/
import Derived.Test.YtedmegjkcgidlaaGreatDoorVas
import Derived.Test.YtedmegjkcgidlaaGreatDoorVat
set_option linter.all false
set_option linter.unusedVariables false
set_option linter.unusedSimpArgs false
noncomputable section
open Go Go.Vx
namespace Go.Vx.Tab
set_option maxRecDepth 1000000
def l40 : List (Nat × List V × V) := [(71, a39, r39)]
theorem k40 : valIs (runX (mOf l40) fns 1000000 (.call 13 a40) fr0 bx0 emp) r40 = true := by decide +kernel
def l41 : List (Nat × List V × V) := []
theorem k41 : valIs (runX (mOf l41) fns 1000000 (.call 71 a41) fr0 bx0 emp) r41 = true := by decide +kernel
def l42 : List (Nat × List V × V) := [(71, a41, r41)]
theorem k42 : valIs (runX (mOf l42) fns 1000000 (.call 13 a42) fr0 bx0 emp) r42 = true := by decide +kernel
def l43 : List (Nat × List V × V) := []
theorem k43 : valIs (runX (mOf l43) fns 1000000 (.call 71 a43) fr0 bx0 emp) r43 = true := by decide +kernel
def l44 : List (Nat × List V × V) := [(71, a43, r43)]
theorem k44 : valIs (runX (mOf l44) fns 1000000 (.call 13 a44) fr0 bx0 emp) r44 = true := by decide +kernel
def l45 : List (Nat × List V × V) := []
theorem k45 : valIs (runX (mOf l45) fns 1000000 (.call 71 a45) fr0 bx0 emp) r45 = true := by decide +kernel
end Go.Vx.Tab
end
