/- A part of the proof of TopLoops: VxAK3. -/
import Derived.Test.YtedmegjkcgidlaaGreatDoorVas
import Derived.Test.YtedmegjkcgidlaaGreatDoorVat
set_option linter.all false
set_option linter.unusedVariables false
set_option linter.unusedSimpArgs false
noncomputable section
open Go Go.Vx
namespace Go.Vx.Tab
set_option maxRecDepth 1000000
def l59 : List (Nat × List V × V) := []
theorem k59 : valIs (runX (mOf l59) fns 1000000 (.call 37 a59) fr0 bx0 emp) r59 = true := by decide +kernel
def l60 : List (Nat × List V × V) := []
theorem k60 : valIs (runX (mOf l60) fns 1000000 (.call 39 a60) fr0 bx0 emp) r60 = true := by decide +kernel
def l61 : List (Nat × List V × V) := []
theorem k61 : valIs (runX (mOf l61) fns 1000000 (.call 39 a61) fr0 bx0 emp) r61 = true := by decide +kernel
def l62 : List (Nat × List V × V) := []
theorem k62 : valIs (runX (mOf l62) fns 1000000 (.call 39 a62) fr0 bx0 emp) r62 = true := by decide +kernel
def l63 : List (Nat × List V × V) := []
theorem k63 : valIs (runX (mOf l63) fns 1000000 (.call 39 a63) fr0 bx0 emp) r63 = true := by decide +kernel
def l64 : List (Nat × List V × V) := []
theorem k64 : valIs (runX (mOf l64) fns 1000000 (.call 39 a64) fr0 bx0 emp) r64 = true := by decide +kernel
def l65 : List (Nat × List V × V) := []
theorem k65 : valIs (runX (mOf l65) fns 1000000 (.call 41 a65) fr0 bx0 emp) r65 = true := by decide +kernel
def l66 : List (Nat × List V × V) := [(41, a65, r65)]
theorem k66 : valIs (runX (mOf l66) fns 1000000 (.call 39 a66) fr0 bx0 emp) r66 = true := by decide +kernel
def l67 : List (Nat × List V × V) := []
theorem k67 : valIs (runX (mOf l67) fns 1000000 (.call 41 a67) fr0 bx0 emp) r67 = true := by decide +kernel
def l68 : List (Nat × List V × V) := [(41, a67, r67)]
theorem k68 : valIs (runX (mOf l68) fns 1000000 (.call 39 a68) fr0 bx0 emp) r68 = true := by decide +kernel
def l69 : List (Nat × List V × V) := []
theorem k69 : valIs (runX (mOf l69) fns 1000000 (.call 39 a69) fr0 bx0 emp) r69 = true := by decide +kernel
def l70 : List (Nat × List V × V) := []
theorem k70 : valIs (runX (mOf l70) fns 1000000 (.call 39 a70) fr0 bx0 emp) r70 = true := by decide +kernel
def l71 : List (Nat × List V × V) := []
theorem k71 : valIs (runX (mOf l71) fns 1000000 (.call 39 a71) fr0 bx0 emp) r71 = true := by decide +kernel
def l72 : List (Nat × List V × V) := []
theorem k72 : valIs (runX (mOf l72) fns 1000000 (.call 39 a72) fr0 bx0 emp) r72 = true := by decide +kernel
def l73 : List (Nat × List V × V) := []
theorem k73 : valIs (runX (mOf l73) fns 1000000 (.call 41 a73) fr0 bx0 emp) r73 = true := by decide +kernel
def l74 : List (Nat × List V × V) := [(41, a73, r73)]
theorem k74 : valIs (runX (mOf l74) fns 1000000 (.call 39 a74) fr0 bx0 emp) r74 = true := by decide +kernel
def l75 : List (Nat × List V × V) := []
theorem k75 : valIs (runX (mOf l75) fns 1000000 (.call 39 a75) fr0 bx0 emp) r75 = true := by decide +kernel
def l76 : List (Nat × List V × V) := []
theorem k76 : valIs (runX (mOf l76) fns 1000000 (.call 39 a76) fr0 bx0 emp) r76 = true := by decide +kernel
def l77 : List (Nat × List V × V) := []
theorem k77 : valIs (runX (mOf l77) fns 1000000 (.call 41 a77) fr0 bx0 emp) r77 = true := by decide +kernel
def l78 : List (Nat × List V × V) := [(41, a77, r77)]
theorem k78 : valIs (runX (mOf l78) fns 1000000 (.call 39 a78) fr0 bx0 emp) r78 = true := by decide +kernel
def l79 : List (Nat × List V × V) := [(107, a1, r1), (107, a2, r2), (107, a3, r3), (107, a5, r5), (107, a6, r6), (107, a8, r8), (107, a9, r9), (107, a10, r10), (107, a12, r12), (107, a13, r13), (107, a14, r14), (107, a15, r15), (107, a16, r16), (124, a18, r18), (124, a19, r19), (124, a20, r20), (124, a21, r21), (124, a22, r22), (124, a23, r23), (124, a24, r24), (124, a25, r25), (124, a26, r26), (124, a27, r27), (124, a28, r28), (124, a29, r29), (124, a30, r30), (124, a31, r31), (124, a32, r32), (22, a55, r55), (33, a57, r57), (33, a58, r58), (37, a59, r59), (39, a60, r60), (39, a61, r61), (39, a62, r62), (39, a63, r63), (39, a64, r64), (39, a66, r66), (39, a68, r68), (39, a69, r69), (39, a70, r70), (39, a71, r71), (39, a72, r72), (39, a74, r74), (39, a75, r75), (39, a76, r76), (39, a78, r78)]
theorem k79 : valIs (runX (mOf l79) fns 1000000 (.call 15 a79) fr0 bx0 emp) r79 = true := by decide +kernel
def l80 : List (Nat × List V × V) := []
theorem k80 : valIs (runX (mOf l80) fns 1000000 (.call 37 a80) fr0 bx0 emp) r80 = true := by decide +kernel
def l81 : List (Nat × List V × V) := [(37, a80, r80)]
theorem k81 : valIs (runX (mOf l81) fns 1000000 (.call 22 a81) fr0 bx0 emp) r81 = true := by decide +kernel
def l82 : List (Nat × List V × V) := [(37, a80, r80)]
theorem k82 : valIs (runX (mOf l82) fns 1000000 (.call 33 a82) fr0 bx0 emp) r82 = true := by decide +kernel
def l83 : List (Nat × List V × V) := []
theorem k83 : valIs (runX (mOf l83) fns 1000000 (.call 37 a83) fr0 bx0 emp) r83 = true := by decide +kernel
end Go.Vx.Tab
end
