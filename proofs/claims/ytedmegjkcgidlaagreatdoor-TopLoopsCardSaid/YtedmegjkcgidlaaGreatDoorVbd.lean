/- A part of the proof of TopLoops: VxAK9. -/
import Derived.Test.YtedmegjkcgidlaaGreatDoorVas
import Derived.Test.YtedmegjkcgidlaaGreatDoorVat
set_option linter.all false
set_option linter.unusedVariables false
set_option linter.unusedSimpArgs false
noncomputable section
open Go Go.Vx
namespace Go.Vx.Tab
set_option maxRecDepth 1000000
def l114 : List (Nat × List V × V) := [(107, a1, r1), (107, a2, r2), (107, a3, r3), (107, a5, r5), (107, a6, r6), (107, a8, r8), (107, a9, r9), (107, a10, r10), (107, a12, r12), (107, a13, r13), (107, a14, r14), (107, a15, r15), (107, a16, r16), (124, a18, r18), (124, a19, r19), (124, a20, r20), (124, a21, r21), (124, a22, r22), (124, a23, r23), (124, a24, r24), (124, a25, r25), (124, a26, r26), (124, a27, r27), (124, a28, r28), (124, a29, r29), (124, a30, r30), (124, a31, r31), (124, a32, r32), (33, a58, r58), (39, a60, r60), (39, a61, r61), (39, a62, r62), (39, a63, r63), (39, a64, r64), (39, a66, r66), (39, a68, r68), (39, a69, r69), (39, a70, r70), (39, a71, r71), (39, a72, r72), (39, a74, r74), (39, a75, r75), (39, a76, r76), (39, a78, r78), (22, a111, r111), (33, a112, r112), (37, a113, r113)]
theorem k114 : valIs (runX (mOf l114) fns 1000000 (.call 15 a114) fr0 bx0 emp) r114 = true := by decide +kernel
def l115 : List (Nat × List V × V) := []
theorem k115 : valIs (runX (mOf l115) fns 1000000 (.call 37 a115) fr0 bx0 emp) r115 = true := by decide +kernel
def l116 : List (Nat × List V × V) := [(37, a115, r115)]
theorem k116 : valIs (runX (mOf l116) fns 1000000 (.call 33 a116) fr0 bx0 emp) r116 = true := by decide +kernel
def l117 : List (Nat × List V × V) := []
theorem k117 : valIs (runX (mOf l117) fns 1000000 (.call 37 a117) fr0 bx0 emp) r117 = true := by decide +kernel
def l118 : List (Nat × List V × V) := [(107, a1, r1), (107, a2, r2), (107, a3, r3), (107, a5, r5), (107, a6, r6), (107, a8, r8), (107, a9, r9), (107, a10, r10), (107, a12, r12), (107, a13, r13), (107, a14, r14), (107, a15, r15), (107, a16, r16), (124, a19, r19), (124, a20, r20), (124, a21, r21), (124, a22, r22), (124, a23, r23), (124, a24, r24), (124, a25, r25), (124, a26, r26), (124, a27, r27), (124, a28, r28), (124, a29, r29), (124, a30, r30), (124, a31, r31), (124, a32, r32), (39, a60, r60), (39, a61, r61), (39, a62, r62), (39, a63, r63), (39, a64, r64), (39, a66, r66), (39, a68, r68), (39, a69, r69), (39, a70, r70), (39, a71, r71), (39, a72, r72), (39, a74, r74), (39, a75, r75), (39, a76, r76), (39, a78, r78), (37, a115, r115), (33, a116, r116), (37, a117, r117)]
theorem k118 : valIs (runX (mOf l118) fns 1000000 (.call 15 a118) fr0 bx0 emp) r118 = true := by decide +kernel
def l119 : List (Nat × List V × V) := []
theorem k119 : valIs (runX (mOf l119) fns 1000000 (.call 37 a119) fr0 bx0 emp) r119 = true := by decide +kernel
def l120 : List (Nat × List V × V) := [(37, a119, r119)]
theorem k120 : valIs (runX (mOf l120) fns 1000000 (.call 22 a120) fr0 bx0 emp) r120 = true := by decide +kernel
def l121 : List (Nat × List V × V) := [(37, a119, r119)]
theorem k121 : valIs (runX (mOf l121) fns 1000000 (.call 33 a121) fr0 bx0 emp) r121 = true := by decide +kernel
def l122 : List (Nat × List V × V) := []
theorem k122 : valIs (runX (mOf l122) fns 1000000 (.call 37 a122) fr0 bx0 emp) r122 = true := by decide +kernel
end Go.Vx.Tab
end
