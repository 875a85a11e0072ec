/- A part of the proof of TopLoops: VxAK12. -/
import Derived.Test.YtedmegjkcgidlaaGreatDoorVas
import Derived.Test.YtedmegjkcgidlaaGreatDoorVat
set_option linter.all false
set_option linter.unusedVariables false
set_option linter.unusedSimpArgs false
noncomputable section
open Go Go.Vx
namespace Go.Vx.Tab
set_option maxRecDepth 1000000
def l133 : List (Nat × List V × V) := [(107, a1, r1), (107, a2, r2), (107, a3, r3), (107, a5, r5), (107, a6, r6), (107, a8, r8), (107, a9, r9), (107, a10, r10), (107, a12, r12), (107, a13, r13), (107, a14, r14), (107, a15, r15), (107, a16, r16), (124, a19, r19), (124, a20, r20), (124, a21, r21), (124, a22, r22), (124, a23, r23), (124, a24, r24), (124, a25, r25), (124, a26, r26), (124, a27, r27), (124, a28, r28), (124, a29, r29), (124, a30, r30), (124, a31, r31), (124, a32, r32), (39, a60, r60), (39, a61, r61), (39, a62, r62), (39, a63, r63), (39, a64, r64), (39, a66, r66), (39, a68, r68), (39, a69, r69), (39, a70, r70), (39, a71, r71), (39, a72, r72), (39, a74, r74), (39, a75, r75), (39, a76, r76), (39, a78, r78), (22, a130, r130), (33, a131, r131), (37, a132, r132)]
theorem k133 : valIs (runX (mOf l133) fns 1000000 (.call 15 a133) fr0 bx0 emp) r133 = true := by decide +kernel
def l134 : List (Nat × List V × V) := [(113, a17, r17)]
theorem k134 : valIs (runX (mOf l134) fns 1000000 (.call 37 a134) fr0 bx0 emp) r134 = true := by decide +kernel
def l135 : List (Nat × List V × V) := [(113, a17, r17), (37, a134, r134)]
theorem k135 : valIs (runX (mOf l135) fns 1000000 (.call 22 a135) fr0 bx0 emp) r135 = true := by decide +kernel
def l136 : List (Nat × List V × V) := [(37, a134, r134)]
theorem k136 : valIs (runX (mOf l136) fns 1000000 (.call 33 a136) fr0 bx0 emp) r136 = true := by decide +kernel
def l137 : List (Nat × List V × V) := [(113, a17, r17)]
theorem k137 : valIs (runX (mOf l137) fns 1000000 (.call 37 a137) fr0 bx0 emp) r137 = true := by decide +kernel
end Go.Vx.Tab
end
