/- A part of the proof of TopLoops: VxAK18. -/
import Derived.Test.YtedmegjkcgidlaaGreatDoorVas
import Derived.Test.YtedmegjkcgidlaaGreatDoorVat
set_option linter.all false
set_option linter.unusedVariables false
set_option linter.unusedSimpArgs false
noncomputable section
open Go Go.Vx
namespace Go.Vx.Tab
set_option maxRecDepth 1000000
def l173 : List (Nat × List V × V) := [(130, a53, r53), (22, a91, r91), (15, a94, r94), (165, a144, r144)]
theorem k173 : valIs (runX (mOf l173) fns 1000000 (.call 9 a173) fr0 bx0 emp) r173 = true := by decide +kernel
def l174 : List (Nat × List V × V) := [(71, a49, r49), (13, a50, r50), (33, a92, r92), (9, a173, r173)]
theorem k174 : valIs (runX (mOf l174) fns 1000000 (.call 6 a174) fr0 bx0 emp) r174 = true := by decide +kernel
def l175 : List (Nat × List V × V) := [(22, a106, r106), (15, a109, r109), (165, a147, r147), (165, a148, r148)]
theorem k175 : valIs (runX (mOf l175) fns 1000000 (.call 9 a175) fr0 bx0 emp) r175 = true := by decide +kernel
def l176 : List (Nat × List V × V) := [(71, a47, r47), (13, a48, r48), (33, a107, r107), (9, a175, r175)]
theorem k176 : valIs (runX (mOf l176) fns 1000000 (.call 6 a176) fr0 bx0 emp) r176 = true := by decide +kernel
def l177 : List (Nat × List V × V) := [(22, a140, r140), (15, a143, r143), (165, a147, r147), (165, a148, r148)]
theorem k177 : valIs (runX (mOf l177) fns 1000000 (.call 9 a177) fr0 bx0 emp) r177 = true := by decide +kernel
end Go.Vx.Tab
end
