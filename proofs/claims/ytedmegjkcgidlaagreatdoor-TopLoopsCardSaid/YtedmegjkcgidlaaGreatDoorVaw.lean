/- A part of the proof of TopLoops: VxAK2. -/
import Derived.Test.YtedmegjkcgidlaaGreatDoorVas
import Derived.Test.YtedmegjkcgidlaaGreatDoorVat
set_option linter.all false
set_option linter.unusedVariables false
set_option linter.unusedSimpArgs false
noncomputable section
open Go Go.Vx
namespace Go.Vx.Tab
set_option maxRecDepth 1000000
def l46 : List (Nat × List V × V) := [(71, a45, r45)]
theorem k46 : valIs (runX (mOf l46) fns 1000000 (.call 13 a46) fr0 bx0 emp) r46 = true := by decide +kernel
def l47 : List (Nat × List V × V) := []
theorem k47 : valIs (runX (mOf l47) fns 1000000 (.call 71 a47) fr0 bx0 emp) r47 = true := by decide +kernel
def l48 : List (Nat × List V × V) := [(71, a47, r47)]
theorem k48 : valIs (runX (mOf l48) fns 1000000 (.call 13 a48) fr0 bx0 emp) r48 = true := by decide +kernel
def l49 : List (Nat × List V × V) := []
theorem k49 : valIs (runX (mOf l49) fns 1000000 (.call 71 a49) fr0 bx0 emp) r49 = true := by decide +kernel
def l50 : List (Nat × List V × V) := [(71, a49, r49)]
theorem k50 : valIs (runX (mOf l50) fns 1000000 (.call 13 a50) fr0 bx0 emp) r50 = true := by decide +kernel
def l51 : List (Nat × List V × V) := []
theorem k51 : valIs (runX (mOf l51) fns 1000000 (.call 71 a51) fr0 bx0 emp) r51 = true := by decide +kernel
def l52 : List (Nat × List V × V) := [(71, a51, r51)]
theorem k52 : valIs (runX (mOf l52) fns 1000000 (.call 13 a52) fr0 bx0 emp) r52 = true := by decide +kernel
def l53 : List (Nat × List V × V) := []
theorem k53 : valIs (runX (mOf l53) fns 1000000 (.call 130 a53) fr0 bx0 emp) r53 = true := by decide +kernel
def l54 : List (Nat × List V × V) := []
theorem k54 : valIs (runX (mOf l54) fns 1000000 (.call 37 a54) fr0 bx0 emp) r54 = true := by decide +kernel
def l55 : List (Nat × List V × V) := [(37, a54, r54)]
theorem k55 : valIs (runX (mOf l55) fns 1000000 (.call 22 a55) fr0 bx0 emp) r55 = true := by decide +kernel
def l56 : List (Nat × List V × V) := []
theorem k56 : valIs (runX (mOf l56) fns 1000000 (.call 92 a56) fr0 bx0 emp) r56 = true := by decide +kernel
def l57 : List (Nat × List V × V) := [(37, a54, r54), (92, a56, r56)]
theorem k57 : valIs (runX (mOf l57) fns 1000000 (.call 33 a57) fr0 bx0 emp) r57 = true := by decide +kernel
def l58 : List (Nat × List V × V) := [(92, a56, r56)]
theorem k58 : valIs (runX (mOf l58) fns 1000000 (.call 33 a58) fr0 bx0 emp) r58 = true := by decide +kernel
end Go.Vx.Tab
end
