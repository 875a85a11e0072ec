/- A part of the proof of TopLoops: VxAK4. -/
import Derived.Test.YtedmegjkcgidlaaGreatDoorVas
import Derived.Test.YtedmegjkcgidlaaGreatDoorVat
set_option linter.all false
set_option linter.unusedVariables false
set_option linter.unusedSimpArgs false
noncomputable section
open Go Go.Vx
namespace Go.Vx.Tab
set_option maxRecDepth 1000000
def l84 : List (Nat × List V × V) := [(107, a1, r1), (107, a2, r2), (107, a3, r3), (107, a5, r5), (107, a6, r6), (107, a8, r8), (107, a9, r9), (107, a10, r10), (107, a12, r12), (107, a13, r13), (107, a14, r14), (107, a15, r15), (107, a16, r16), (124, a19, r19), (124, a20, r20), (124, a21, r21), (124, a22, r22), (124, a23, r23), (124, a24, r24), (124, a25, r25), (124, a26, r26), (124, a27, r27), (124, a28, r28), (124, a29, r29), (124, a30, r30), (124, a31, r31), (124, a32, r32), (39, a60, r60), (39, a61, r61), (39, a62, r62), (39, a63, r63), (39, a64, r64), (39, a66, r66), (39, a68, r68), (39, a69, r69), (39, a70, r70), (39, a71, r71), (39, a72, r72), (39, a74, r74), (39, a75, r75), (39, a76, r76), (39, a78, r78), (22, a81, r81), (33, a82, r82), (37, a83, r83)]
theorem k84 : valIs (runX (mOf l84) fns 1000000 (.call 15 a84) fr0 bx0 emp) r84 = true := by decide +kernel
def l85 : List (Nat × List V × V) := []
theorem k85 : valIs (runX (mOf l85) fns 1000000 (.call 37 a85) fr0 bx0 emp) r85 = true := by decide +kernel
def l86 : List (Nat × List V × V) := [(37, a85, r85)]
theorem k86 : valIs (runX (mOf l86) fns 1000000 (.call 22 a86) fr0 bx0 emp) r86 = true := by decide +kernel
def l87 : List (Nat × List V × V) := [(37, a85, r85)]
theorem k87 : valIs (runX (mOf l87) fns 1000000 (.call 33 a87) fr0 bx0 emp) r87 = true := by decide +kernel
def l88 : List (Nat × List V × V) := []
theorem k88 : valIs (runX (mOf l88) fns 1000000 (.call 37 a88) fr0 bx0 emp) r88 = true := by decide +kernel
def l89 : List (Nat × List V × V) := [(107, a1, r1), (107, a2, r2), (107, a3, r3), (107, a5, r5), (107, a6, r6), (107, a8, r8), (107, a9, r9), (107, a10, r10), (107, a12, r12), (107, a13, r13), (107, a14, r14), (107, a15, r15), (107, a16, r16), (124, a19, r19), (124, a20, r20), (124, a21, r21), (124, a22, r22), (124, a23, r23), (124, a24, r24), (124, a25, r25), (124, a26, r26), (124, a27, r27), (124, a28, r28), (124, a29, r29), (124, a30, r30), (124, a31, r31), (124, a32, r32), (39, a60, r60), (39, a61, r61), (39, a62, r62), (39, a63, r63), (39, a64, r64), (39, a66, r66), (39, a68, r68), (39, a69, r69), (39, a70, r70), (39, a71, r71), (39, a72, r72), (39, a74, r74), (39, a75, r75), (39, a76, r76), (39, a78, r78), (22, a86, r86), (33, a87, r87), (37, a88, r88)]
theorem k89 : valIs (runX (mOf l89) fns 1000000 (.call 15 a89) fr0 bx0 emp) r89 = true := by decide +kernel
def l90 : List (Nat × List V × V) := []
theorem k90 : valIs (runX (mOf l90) fns 1000000 (.call 37 a90) fr0 bx0 emp) r90 = true := by decide +kernel
def l91 : List (Nat × List V × V) := [(37, a90, r90)]
theorem k91 : valIs (runX (mOf l91) fns 1000000 (.call 22 a91) fr0 bx0 emp) r91 = true := by decide +kernel
def l92 : List (Nat × List V × V) := [(37, a90, r90)]
theorem k92 : valIs (runX (mOf l92) fns 1000000 (.call 33 a92) fr0 bx0 emp) r92 = true := by decide +kernel
def l93 : List (Nat × List V × V) := []
theorem k93 : valIs (runX (mOf l93) fns 1000000 (.call 37 a93) fr0 bx0 emp) r93 = true := by decide +kernel
end Go.Vx.Tab
end
