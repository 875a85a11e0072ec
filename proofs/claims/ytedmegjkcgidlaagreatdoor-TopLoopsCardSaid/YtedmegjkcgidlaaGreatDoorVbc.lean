/- A part of the proof of TopLoops: VxAK8. -/
import Derived.Test.YtedmegjkcgidlaaGreatDoorVas
import Derived.Test.YtedmegjkcgidlaaGreatDoorVat
set_option linter.all false
set_option linter.unusedVariables false
set_option linter.unusedSimpArgs false
noncomputable section
open Go Go.Vx
namespace Go.Vx.Tab
set_option maxRecDepth 1000000
def l109 : List (Nat × List V × V) := [(107, a1, r1), (107, a2, r2), (107, a3, r3), (107, a5, r5), (107, a6, r6), (107, a8, r8), (107, a9, r9), (107, a10, r10), (107, a12, r12), (107, a13, r13), (107, a14, r14), (107, a15, r15), (107, a16, r16), (124, a18, r18), (124, a19, r19), (124, a20, r20), (124, a21, r21), (124, a22, r22), (124, a23, r23), (124, a24, r24), (124, a25, r25), (124, a26, r26), (124, a27, r27), (124, a28, r28), (124, a29, r29), (124, a30, r30), (124, a31, r31), (124, a32, r32), (33, a58, r58), (39, a60, r60), (39, a61, r61), (39, a62, r62), (39, a63, r63), (39, a64, r64), (39, a66, r66), (39, a68, r68), (39, a69, r69), (39, a70, r70), (39, a71, r71), (39, a72, r72), (39, a74, r74), (39, a75, r75), (39, a76, r76), (39, a78, r78), (22, a106, r106), (33, a107, r107), (37, a108, r108)]
theorem k109 : valIs (runX (mOf l109) fns 1000000 (.call 15 a109) fr0 bx0 emp) r109 = true := by decide +kernel
def l110 : List (Nat × List V × V) := []
theorem k110 : valIs (runX (mOf l110) fns 1000000 (.call 37 a110) fr0 bx0 emp) r110 = true := by decide +kernel
def l111 : List (Nat × List V × V) := [(37, a110, r110)]
theorem k111 : valIs (runX (mOf l111) fns 1000000 (.call 22 a111) fr0 bx0 emp) r111 = true := by decide +kernel
def l112 : List (Nat × List V × V) := [(92, a56, r56), (37, a110, r110)]
theorem k112 : valIs (runX (mOf l112) fns 1000000 (.call 33 a112) fr0 bx0 emp) r112 = true := by decide +kernel
def l113 : List (Nat × List V × V) := []
theorem k113 : valIs (runX (mOf l113) fns 1000000 (.call 37 a113) fr0 bx0 emp) r113 = true := by decide +kernel
end Go.Vx.Tab
end
