/- A part of the proof of TopLoops: VxAK17. -/
import Derived.Test.YtedmegjkcgidlaaGreatDoorVas
import Derived.Test.YtedmegjkcgidlaaGreatDoorVat
set_option linter.all false
set_option linter.unusedVariables false
set_option linter.unusedSimpArgs false
noncomputable section
open Go Go.Vx
namespace Go.Vx.Tab
set_option maxRecDepth 1000000
def l168 : List (Nat × List V × V) := [(71, a45, r45), (13, a46, r46), (33, a57, r57), (9, a167, r167)]
theorem k168 : valIs (runX (mOf l168) fns 1000000 (.call 6 a168) fr0 bx0 emp) r168 = true := by decide +kernel
def l169 : List (Nat × List V × V) := [(130, a53, r53), (22, a120, r120), (15, a123, r123), (165, a144, r144)]
theorem k169 : valIs (runX (mOf l169) fns 1000000 (.call 9 a169) fr0 bx0 emp) r169 = true := by decide +kernel
def l170 : List (Nat × List V × V) := [(71, a35, r35), (13, a36, r36), (33, a121, r121), (9, a169, r169)]
theorem k170 : valIs (runX (mOf l170) fns 1000000 (.call 6 a170) fr0 bx0 emp) r170 = true := by decide +kernel
def l171 : List (Nat × List V × V) := [(22, a96, r96), (15, a99, r99), (165, a147, r147), (165, a148, r148)]
theorem k171 : valIs (runX (mOf l171) fns 1000000 (.call 9 a171) fr0 bx0 emp) r171 = true := by decide +kernel
def l172 : List (Nat × List V × V) := [(71, a39, r39), (13, a40, r40), (33, a97, r97), (9, a171, r171)]
theorem k172 : valIs (runX (mOf l172) fns 1000000 (.call 6 a172) fr0 bx0 emp) r172 = true := by decide +kernel
end Go.Vx.Tab
end
