/- A part of the proof of TopLocks. -/
import Derived.Test.YtbbcoelimmpbaaaGreatDoorVbg
set_option linter.all false
set_option linter.unusedVariables false
set_option linter.unusedSimpArgs false
set_option maxRecDepth 1000000
noncomputable section
namespace Go.Vx.L4
section
open Go
noncomputable section
theorem main:Ez C S 4 true 110 s0=true:=by decide +kernel
end
end
section
open Go
noncomputable section
theorem ov0:qH C 0 110 s0=true:=by decide +kernel
theorem e1:Hw C 4 (kV C 0 110 s0) 25=true:=by decide +kernel
theorem e2:Hw C 4 (kV C 0 110 s0) 31=true:=by decide +kernel
end
end
section
open Go
theorem chk:Cc 70 [.agg [C.ops,C.defs]] (.bool true):=evX (n:=1000000) (by decide +kernel) (by decide +kernel) rfl
end
end Go.Vx.L4
