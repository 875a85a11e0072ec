/- A part of the proof of TopLoops: VxAK7. -/
import Derived.Test.YtedmegjkcgidlaaGreatDoorVas
import Derived.Test.YtedmegjkcgidlaaGreatDoorVat
set_option linter.all false
set_option linter.unusedVariables false
set_option linter.unusedSimpArgs false
noncomputable section
open Go Go.Vx
namespace Go.Vx.Tab
set_option maxRecDepth 1000000
def l104 : List (Nat × List V × V) := [(107, a1, r1), (107, a2, r2), (107, a3, r3), (107, a5, r5), (107, a6, r6), (107, a8, r8), (107, a9, r9), (107, a10, r10), (107, a12, r12), (107, a13, r13), (107, a14, r14), (107, a15, r15), (107, a16, r16), (124, a19, r19), (124, a20, r20), (124, a21, r21), (124, a22, r22), (124, a23, r23), (124, a24, r24), (124, a25, r25), (124, a26, r26), (124, a27, r27), (124, a28, r28), (124, a29, r29), (124, a30, r30), (124, a31, r31), (124, a32, r32), (39, a60, r60), (39, a61, r61), (39, a62, r62), (39, a63, r63), (39, a64, r64), (39, a66, r66), (39, a68, r68), (39, a69, r69), (39, a70, r70), (39, a71, r71), (39, a72, r72), (39, a74, r74), (39, a75, r75), (39, a76, r76), (39, a78, r78), (22, a101, r101), (33, a102, r102), (37, a103, r103)]
theorem k104 : valIs (runX (mOf l104) fns 1000000 (.call 15 a104) fr0 bx0 emp) r104 = true := by decide +kernel
def l105 : List (Nat × List V × V) := []
theorem k105 : valIs (runX (mOf l105) fns 1000000 (.call 37 a105) fr0 bx0 emp) r105 = true := by decide +kernel
def l106 : List (Nat × List V × V) := [(37, a105, r105)]
theorem k106 : valIs (runX (mOf l106) fns 1000000 (.call 22 a106) fr0 bx0 emp) r106 = true := by decide +kernel
def l107 : List (Nat × List V × V) := [(92, a56, r56), (37, a105, r105)]
theorem k107 : valIs (runX (mOf l107) fns 1000000 (.call 33 a107) fr0 bx0 emp) r107 = true := by decide +kernel
def l108 : List (Nat × List V × V) := []
theorem k108 : valIs (runX (mOf l108) fns 1000000 (.call 37 a108) fr0 bx0 emp) r108 = true := by decide +kernel
end Go.Vx.Tab
end
