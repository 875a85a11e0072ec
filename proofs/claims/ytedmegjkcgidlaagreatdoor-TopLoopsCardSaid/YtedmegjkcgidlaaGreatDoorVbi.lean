/- A part of the proof of TopLoops: VxAK14. -/
import Derived.Test.YtedmegjkcgidlaaGreatDoorVas
import Derived.Test.YtedmegjkcgidlaaGreatDoorVat
set_option linter.all false
set_option linter.unusedVariables false
set_option linter.unusedSimpArgs false
noncomputable section
open Go Go.Vx
namespace Go.Vx.Tab
set_option maxRecDepth 1000000
def l143 : List (Nat × List V × V) := [(107, a1, r1), (107, a2, r2), (107, a3, r3), (107, a5, r5), (107, a6, r6), (107, a8, r8), (107, a9, r9), (107, a10, r10), (107, a12, r12), (107, a13, r13), (107, a14, r14), (107, a15, r15), (107, a16, r16), (124, a18, r18), (124, a19, r19), (124, a20, r20), (124, a21, r21), (124, a22, r22), (124, a23, r23), (124, a24, r24), (124, a25, r25), (124, a26, r26), (124, a27, r27), (124, a28, r28), (124, a29, r29), (124, a30, r30), (124, a31, r31), (124, a32, r32), (33, a58, r58), (39, a60, r60), (39, a61, r61), (39, a62, r62), (39, a63, r63), (39, a64, r64), (39, a66, r66), (39, a68, r68), (39, a69, r69), (39, a70, r70), (39, a71, r71), (39, a72, r72), (39, a74, r74), (39, a75, r75), (39, a76, r76), (39, a78, r78), (22, a140, r140), (33, a141, r141), (37, a142, r142)]
theorem k143 : valIs (runX (mOf l143) fns 1000000 (.call 15 a143) fr0 bx0 emp) r143 = true := by decide +kernel
def l144 : List (Nat × List V × V) := [(39, a60, r60), (39, a61, r61), (39, a62, r62), (39, a63, r63), (39, a64, r64), (39, a66, r66), (39, a68, r68), (39, a69, r69), (39, a70, r70), (39, a71, r71), (39, a72, r72), (39, a74, r74), (39, a75, r75), (39, a78, r78)]
theorem k144 : valIs (runX (mOf l144) fns 1000000 (.call 165 a144) fr0 bx0 emp) r144 = true := by decide +kernel
def l145 : List (Nat × List V × V) := [(39, a60, r60), (39, a61, r61), (39, a62, r62), (39, a63, r63), (39, a64, r64), (39, a66, r66), (39, a68, r68), (39, a69, r69), (39, a70, r70), (39, a71, r71), (39, a72, r72), (39, a74, r74), (39, a75, r75), (39, a78, r78)]
theorem k145 : valIs (runX (mOf l145) fns 1000000 (.call 165 a145) fr0 bx0 emp) r145 = true := by decide +kernel
def l146 : List (Nat × List V × V) := [(39, a60, r60), (39, a61, r61), (39, a62, r62), (39, a63, r63), (39, a64, r64), (39, a66, r66), (39, a68, r68), (39, a69, r69), (39, a70, r70), (39, a71, r71), (39, a72, r72), (39, a74, r74), (39, a75, r75), (39, a78, r78)]
theorem k146 : valIs (runX (mOf l146) fns 1000000 (.call 165 a146) fr0 bx0 emp) r146 = true := by decide +kernel
def l147 : List (Nat × List V × V) := [(39, a60, r60), (39, a61, r61), (39, a62, r62), (39, a63, r63), (39, a64, r64), (39, a66, r66), (39, a68, r68), (39, a69, r69), (39, a70, r70), (39, a71, r71), (39, a72, r72), (39, a74, r74), (39, a75, r75), (39, a78, r78)]
theorem k147 : valIs (runX (mOf l147) fns 1000000 (.call 165 a147) fr0 bx0 emp) r147 = true := by decide +kernel
def l148 : List (Nat × List V × V) := [(39, a60, r60), (39, a61, r61), (39, a62, r62), (39, a63, r63), (39, a64, r64), (39, a66, r66), (39, a68, r68), (39, a69, r69), (39, a70, r70), (39, a71, r71), (39, a72, r72), (39, a74, r74), (39, a75, r75), (39, a78, r78)]
theorem k148 : valIs (runX (mOf l148) fns 1000000 (.call 165 a148) fr0 bx0 emp) r148 = true := by decide +kernel
def l149 : List (Nat × List V × V) := []
theorem k149 : valIs (runX (mOf l149) fns 1000000 (.call 17 a149) fr0 bx0 emp) r149 = true := by decide +kernel
def l150 : List (Nat × List V × V) := [(22, a125, r125), (15, a128, r128), (165, a147, r147), (165, a148, r148)]
theorem k150 : valIs (runX (mOf l150) fns 1000000 (.call 9 a150) fr0 bx0 emp) r150 = true := by decide +kernel
def l151 : List (Nat × List V × V) := [(71, a33, r33), (13, a34, r34), (33, a126, r126), (9, a150, r150)]
theorem k151 : valIs (runX (mOf l151) fns 1000000 (.call 6 a151) fr0 bx0 emp) r151 = true := by decide +kernel
def l152 : List (Nat × List V × V) := []
theorem k152 : valIs (runX (mOf l152) fns 1000000 (.call 71 a152) fr0 bx0 emp) r152 = true := by decide +kernel
def l153 : List (Nat × List V × V) := [(130, a53, r53), (22, a86, r86), (15, a89, r89), (165, a144, r144)]
theorem k153 : valIs (runX (mOf l153) fns 1000000 (.call 9 a153) fr0 bx0 emp) r153 = true := by decide +kernel
end Go.Vx.Tab
end
