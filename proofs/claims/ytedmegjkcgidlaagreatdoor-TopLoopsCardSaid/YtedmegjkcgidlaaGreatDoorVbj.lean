/- A part of the proof of TopLoops: VxAK15. -/
import Derived.Test.YtedmegjkcgidlaaGreatDoorVas
import Derived.Test.YtedmegjkcgidlaaGreatDoorVat
set_option linter.all false
set_option linter.unusedVariables false
set_option linter.unusedSimpArgs false
noncomputable section
open Go Go.Vx
namespace Go.Vx.Tab
set_option maxRecDepth 1000000
def l154 : List (Nat × List V × V) := [(33, a87, r87), (71, a152, r152), (9, a153, r153)]
theorem k154 : valIs (runX (mOf l154) fns 1000000 (.call 6 a154) fr0 bx0 emp) r154 = true := by decide +kernel
def l155 : List (Nat × List V × V) := []
theorem k155 : valIs (runX (mOf l155) fns 1000000 (.call 71 a155) fr0 bx0 emp) r155 = true := by decide +kernel
def l156 : List (Nat × List V × V) := [(130, a53, r53), (22, a81, r81), (15, a84, r84), (165, a144, r144)]
theorem k156 : valIs (runX (mOf l156) fns 1000000 (.call 9 a156) fr0 bx0 emp) r156 = true := by decide +kernel
def l157 : List (Nat × List V × V) := [(33, a82, r82), (71, a155, r155), (9, a156, r156)]
theorem k157 : valIs (runX (mOf l157) fns 1000000 (.call 6 a157) fr0 bx0 emp) r157 = true := by decide +kernel
def l158 : List (Nat × List V × V) := []
theorem k158 : valIs (runX (mOf l158) fns 1000000 (.call 71 a158) fr0 bx0 emp) r158 = true := by decide +kernel
def l159 : List (Nat × List V × V) := [(130, a53, r53), (22, a101, r101), (15, a104, r104), (165, a144, r144)]
theorem k159 : valIs (runX (mOf l159) fns 1000000 (.call 9 a159) fr0 bx0 emp) r159 = true := by decide +kernel
def l160 : List (Nat × List V × V) := [(33, a102, r102), (71, a158, r158), (9, a159, r159)]
theorem k160 : valIs (runX (mOf l160) fns 1000000 (.call 6 a160) fr0 bx0 emp) r160 = true := by decide +kernel
def l161 : List (Nat × List V × V) := [(22, a111, r111), (15, a114, r114), (165, a147, r147), (165, a148, r148)]
theorem k161 : valIs (runX (mOf l161) fns 1000000 (.call 9 a161) fr0 bx0 emp) r161 = true := by decide +kernel
end Go.Vx.Tab
end
