/- A part of the proof of TopLoops: VxAK16. -/
import Derived.Test.YtedmegjkcgidlaaGreatDoorVas
import Derived.Test.YtedmegjkcgidlaaGreatDoorVat
set_option linter.all false
set_option linter.unusedVariables false
set_option linter.unusedSimpArgs false
noncomputable section
open Go Go.Vx
namespace Go.Vx.Tab
set_option maxRecDepth 1000000
def l162 : List (Nat × List V × V) := [(71, a51, r51), (13, a52, r52), (33, a112, r112), (9, a161, r161)]
theorem k162 : valIs (runX (mOf l162) fns 1000000 (.call 6 a162) fr0 bx0 emp) r162 = true := by decide +kernel
def l163 : List (Nat × List V × V) := [(113, a17, r17), (39, a60, r60), (39, a61, r61), (39, a62, r62), (39, a63, r63), (39, a64, r64), (39, a66, r66), (39, a68, r68), (39, a69, r69), (39, a70, r70), (39, a71, r71), (39, a72, r72), (39, a74, r74), (39, a75, r75), (39, a78, r78), (22, a135, r135), (15, a138, r138), (165, a144, r144), (165, a145, r145), (165, a146, r146)]
theorem k163 : valIs (runX (mOf l163) fns 1000000 (.call 9 a163) fr0 bx0 emp) r163 = true := by decide +kernel
def l164 : List (Nat × List V × V) := [(71, a41, r41), (13, a42, r42), (33, a136, r136), (9, a163, r163)]
theorem k164 : valIs (runX (mOf l164) fns 1000000 (.call 6 a164) fr0 bx0 emp) r164 = true := by decide +kernel
def l165 : List (Nat × List V × V) := [(130, a53, r53), (22, a130, r130), (15, a133, r133), (165, a144, r144)]
theorem k165 : valIs (runX (mOf l165) fns 1000000 (.call 9 a165) fr0 bx0 emp) r165 = true := by decide +kernel
def l166 : List (Nat × List V × V) := [(71, a37, r37), (13, a38, r38), (33, a131, r131), (9, a165, r165)]
theorem k166 : valIs (runX (mOf l166) fns 1000000 (.call 6 a166) fr0 bx0 emp) r166 = true := by decide +kernel
def l167 : List (Nat × List V × V) := [(22, a55, r55), (15, a79, r79), (165, a147, r147), (165, a148, r148)]
theorem k167 : valIs (runX (mOf l167) fns 1000000 (.call 9 a167) fr0 bx0 emp) r167 = true := by decide +kernel
end Go.Vx.Tab
end
