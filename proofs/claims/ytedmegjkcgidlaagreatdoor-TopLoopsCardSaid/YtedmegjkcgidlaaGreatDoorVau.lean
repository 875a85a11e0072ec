/- A part of the proof of TopLoops: VxAK0. -/
import Derived.Test.YtedmegjkcgidlaaGreatDoorVas
import Derived.Test.YtedmegjkcgidlaaGreatDoorVat
set_option linter.all false
set_option linter.unusedVariables false
set_option linter.unusedSimpArgs false
noncomputable section
open Go Go.Vx
namespace Go.Vx.Tab
set_option maxRecDepth 1000000
def l0 : List (Nat × List V × V) := []
theorem k0 : valIs (runX (mOf l0) fns 1000000 (.call 41 a0) fr0 bx0 emp) r0 = true := by decide +kernel
def l1 : List (Nat × List V × V) := [(41, a0, r0)]
theorem k1 : valIs (runX (mOf l1) fns 1000000 (.call 107 a1) fr0 bx0 emp) r1 = true := by decide +kernel
def l2 : List (Nat × List V × V) := []
theorem k2 : valIs (runX (mOf l2) fns 1000000 (.call 107 a2) fr0 bx0 emp) r2 = true := by decide +kernel
def l3 : List (Nat × List V × V) := []
theorem k3 : valIs (runX (mOf l3) fns 1000000 (.call 107 a3) fr0 bx0 emp) r3 = true := by decide +kernel
def l4 : List (Nat × List V × V) := []
theorem k4 : valIs (runX (mOf l4) fns 1000000 (.call 41 a4) fr0 bx0 emp) r4 = true := by decide +kernel
def l5 : List (Nat × List V × V) := [(41, a4, r4)]
theorem k5 : valIs (runX (mOf l5) fns 1000000 (.call 107 a5) fr0 bx0 emp) r5 = true := by decide +kernel
def l6 : List (Nat × List V × V) := []
theorem k6 : valIs (runX (mOf l6) fns 1000000 (.call 107 a6) fr0 bx0 emp) r6 = true := by decide +kernel
def l7 : List (Nat × List V × V) := []
theorem k7 : valIs (runX (mOf l7) fns 1000000 (.call 41 a7) fr0 bx0 emp) r7 = true := by decide +kernel
def l8 : List (Nat × List V × V) := [(41, a7, r7)]
theorem k8 : valIs (runX (mOf l8) fns 1000000 (.call 107 a8) fr0 bx0 emp) r8 = true := by decide +kernel
def l9 : List (Nat × List V × V) := []
theorem k9 : valIs (runX (mOf l9) fns 1000000 (.call 107 a9) fr0 bx0 emp) r9 = true := by decide +kernel
def l10 : List (Nat × List V × V) := []
theorem k10 : valIs (runX (mOf l10) fns 1000000 (.call 107 a10) fr0 bx0 emp) r10 = true := by decide +kernel
def l11 : List (Nat × List V × V) := []
theorem k11 : valIs (runX (mOf l11) fns 1000000 (.call 41 a11) fr0 bx0 emp) r11 = true := by decide +kernel
def l12 : List (Nat × List V × V) := [(41, a11, r11)]
theorem k12 : valIs (runX (mOf l12) fns 1000000 (.call 107 a12) fr0 bx0 emp) r12 = true := by decide +kernel
def l13 : List (Nat × List V × V) := []
theorem k13 : valIs (runX (mOf l13) fns 1000000 (.call 107 a13) fr0 bx0 emp) r13 = true := by decide +kernel
def l14 : List (Nat × List V × V) := []
theorem k14 : valIs (runX (mOf l14) fns 1000000 (.call 107 a14) fr0 bx0 emp) r14 = true := by decide +kernel
def l15 : List (Nat × List V × V) := []
theorem k15 : valIs (runX (mOf l15) fns 1000000 (.call 107 a15) fr0 bx0 emp) r15 = true := by decide +kernel
def l16 : List (Nat × List V × V) := []
theorem k16 : valIs (runX (mOf l16) fns 1000000 (.call 107 a16) fr0 bx0 emp) r16 = true := by decide +kernel
def l17 : List (Nat × List V × V) := []
theorem k17 : valIs (runX (mOf l17) fns 1000000 (.call 113 a17) fr0 bx0 emp) r17 = true := by decide +kernel
def l18 : List (Nat × List V × V) := []
theorem k18 : valIs (runX (mOf l18) fns 1000000 (.call 124 a18) fr0 bx0 emp) r18 = true := by decide +kernel
def l19 : List (Nat × List V × V) := [(41, a0, r0), (107, a1, r1)]
theorem k19 : valIs (runX (mOf l19) fns 1000000 (.call 124 a19) fr0 bx0 emp) r19 = true := by decide +kernel
def l20 : List (Nat × List V × V) := [(107, a2, r2)]
theorem k20 : valIs (runX (mOf l20) fns 1000000 (.call 124 a20) fr0 bx0 emp) r20 = true := by decide +kernel
def l21 : List (Nat × List V × V) := [(107, a3, r3)]
theorem k21 : valIs (runX (mOf l21) fns 1000000 (.call 124 a21) fr0 bx0 emp) r21 = true := by decide +kernel
def l22 : List (Nat × List V × V) := [(41, a4, r4), (107, a5, r5)]
theorem k22 : valIs (runX (mOf l22) fns 1000000 (.call 124 a22) fr0 bx0 emp) r22 = true := by decide +kernel
def l23 : List (Nat × List V × V) := []
theorem k23 : valIs (runX (mOf l23) fns 1000000 (.call 124 a23) fr0 bx0 emp) r23 = true := by decide +kernel
def l24 : List (Nat × List V × V) := [(107, a6, r6)]
theorem k24 : valIs (runX (mOf l24) fns 1000000 (.call 124 a24) fr0 bx0 emp) r24 = true := by decide +kernel
def l25 : List (Nat × List V × V) := [(41, a7, r7), (107, a8, r8)]
theorem k25 : valIs (runX (mOf l25) fns 1000000 (.call 124 a25) fr0 bx0 emp) r25 = true := by decide +kernel
def l26 : List (Nat × List V × V) := [(107, a9, r9)]
theorem k26 : valIs (runX (mOf l26) fns 1000000 (.call 124 a26) fr0 bx0 emp) r26 = true := by decide +kernel
def l27 : List (Nat × List V × V) := [(107, a10, r10)]
theorem k27 : valIs (runX (mOf l27) fns 1000000 (.call 124 a27) fr0 bx0 emp) r27 = true := by decide +kernel
def l28 : List (Nat × List V × V) := [(41, a11, r11), (107, a12, r12)]
theorem k28 : valIs (runX (mOf l28) fns 1000000 (.call 124 a28) fr0 bx0 emp) r28 = true := by decide +kernel
def l29 : List (Nat × List V × V) := [(107, a13, r13)]
theorem k29 : valIs (runX (mOf l29) fns 1000000 (.call 124 a29) fr0 bx0 emp) r29 = true := by decide +kernel
def l30 : List (Nat × List V × V) := [(107, a14, r14)]
theorem k30 : valIs (runX (mOf l30) fns 1000000 (.call 124 a30) fr0 bx0 emp) r30 = true := by decide +kernel
def l31 : List (Nat × List V × V) := [(107, a15, r15)]
theorem k31 : valIs (runX (mOf l31) fns 1000000 (.call 124 a31) fr0 bx0 emp) r31 = true := by decide +kernel
def l32 : List (Nat × List V × V) := [(107, a16, r16)]
theorem k32 : valIs (runX (mOf l32) fns 1000000 (.call 124 a32) fr0 bx0 emp) r32 = true := by decide +kernel
def l33 : List (Nat × List V × V) := []
theorem k33 : valIs (runX (mOf l33) fns 1000000 (.call 71 a33) fr0 bx0 emp) r33 = true := by decide +kernel
def l34 : List (Nat × List V × V) := [(71, a33, r33)]
theorem k34 : valIs (runX (mOf l34) fns 1000000 (.call 13 a34) fr0 bx0 emp) r34 = true := by decide +kernel
def l35 : List (Nat × List V × V) := []
theorem k35 : valIs (runX (mOf l35) fns 1000000 (.call 71 a35) fr0 bx0 emp) r35 = true := by decide +kernel
def l36 : List (Nat × List V × V) := [(71, a35, r35)]
theorem k36 : valIs (runX (mOf l36) fns 1000000 (.call 13 a36) fr0 bx0 emp) r36 = true := by decide +kernel
def l37 : List (Nat × List V × V) := []
theorem k37 : valIs (runX (mOf l37) fns 1000000 (.call 71 a37) fr0 bx0 emp) r37 = true := by decide +kernel
def l38 : List (Nat × List V × V) := [(71, a37, r37)]
theorem k38 : valIs (runX (mOf l38) fns 1000000 (.call 13 a38) fr0 bx0 emp) r38 = true := by decide +kernel
def l39 : List (Nat × List V × V) := []
theorem k39 : valIs (runX (mOf l39) fns 1000000 (.call 71 a39) fr0 bx0 emp) r39 = true := by decide +kernel
end Go.Vx.Tab
end
