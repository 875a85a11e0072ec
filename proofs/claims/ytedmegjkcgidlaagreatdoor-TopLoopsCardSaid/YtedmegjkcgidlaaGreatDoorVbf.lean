/- A part of the proof of TopLoops: VxAK11. -/
import Derived.Test.YtedmegjkcgidlaaGreatDoorVas
import Derived.Test.YtedmegjkcgidlaaGreatDoorVat
set_option linter.all false
set_option linter.unusedVariables false
set_option linter.unusedSimpArgs false
noncomputable section
open Go Go.Vx
namespace Go.Vx.Tab
set_option maxRecDepth 1000000
def l128 : List (Nat × List V × V) := [(107, a1, r1), (107, a2, r2), (107, a3, r3), (107, a5, r5), (107, a6, r6), (107, a8, r8), (107, a9, r9), (107, a10, r10), (107, a12, r12), (107, a13, r13), (107, a14, r14), (107, a15, r15), (107, a16, r16), (124, a18, r18), (124, a19, r19), (124, a20, r20), (124, a21, r21), (124, a22, r22), (124, a23, r23), (124, a24, r24), (124, a25, r25), (124, a26, r26), (124, a27, r27), (124, a28, r28), (124, a29, r29), (124, a30, r30), (124, a31, r31), (124, a32, r32), (33, a58, r58), (39, a60, r60), (39, a61, r61), (39, a62, r62), (39, a63, r63), (39, a64, r64), (39, a66, r66), (39, a68, r68), (39, a69, r69), (39, a70, r70), (39, a71, r71), (39, a72, r72), (39, a74, r74), (39, a75, r75), (39, a76, r76), (39, a78, r78), (22, a125, r125), (33, a126, r126), (37, a127, r127)]
theorem k128 : valIs (runX (mOf l128) fns 1000000 (.call 15 a128) fr0 bx0 emp) r128 = true := by decide +kernel
def l129 : List (Nat × List V × V) := []
theorem k129 : valIs (runX (mOf l129) fns 1000000 (.call 37 a129) fr0 bx0 emp) r129 = true := by decide +kernel
def l130 : List (Nat × List V × V) := [(37, a129, r129)]
theorem k130 : valIs (runX (mOf l130) fns 1000000 (.call 22 a130) fr0 bx0 emp) r130 = true := by decide +kernel
def l131 : List (Nat × List V × V) := [(37, a129, r129)]
theorem k131 : valIs (runX (mOf l131) fns 1000000 (.call 33 a131) fr0 bx0 emp) r131 = true := by decide +kernel
def l132 : List (Nat × List V × V) := []
theorem k132 : valIs (runX (mOf l132) fns 1000000 (.call 37 a132) fr0 bx0 emp) r132 = true := by decide +kernel
end Go.Vx.Tab
end
