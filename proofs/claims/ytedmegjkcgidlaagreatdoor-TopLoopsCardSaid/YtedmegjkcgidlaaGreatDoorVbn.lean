/- A part of the proof of TopLoops: VxAK19. -/
import Derived.Test.YtedmegjkcgidlaaGreatDoorVas
import Derived.Test.YtedmegjkcgidlaaGreatDoorVat
set_option linter.all false
set_option linter.unusedVariables false
set_option linter.unusedSimpArgs false
noncomputable section
open Go Go.Vx
namespace Go.Vx.Tab
set_option maxRecDepth 1000000
def l178 : List (Nat × List V × V) := [(71, a43, r43), (13, a44, r44), (33, a141, r141), (9, a177, r177)]
theorem k178 : valIs (runX (mOf l178) fns 1000000 (.call 6 a178) fr0 bx0 emp) r178 = true := by decide +kernel
def l179 : List (Nat × List V × V) := [(33, a116, r116)]
theorem k179 : valIs (runX (mOf l179) fns 1000000 (.call 8 a179) fr0 bx0 emp) r179 = true := by decide +kernel
end Go.Vx.Tab
end
