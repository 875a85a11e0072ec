/- A part of the proof of TopLocks. -/
import Derived.Test.YtbbcoelimmpbaaaGreatDoorVbg
set_option linter.all false
set_option linter.unusedVariables false
set_option linter.unusedSimpArgs false
set_option maxRecDepth 1000000
noncomputable section
namespace Go.Vx.L0
section
open Go
noncomputable section
theorem main:Ez C S 0 true 58 s0=true:=by decide +kernel
end
end
section
open Go
noncomputable section
theorem ov0:qH C 0 58 s0=true:=by decide +kernel
theorem e1:Hw C 0 (kV C 0 58 s0) 25=true:=by decide +kernel
theorem e2:Hw C 0 (kV C 0 58 s0) 31=true:=by decide +kernel
end
end
section
open Go
theorem chk:Cc 70 [.agg [C.ops,C.defs]] (.bool true):=evX (n:=1000000) (by decide +kernel) (by decide +kernel) rfl
end
end Go.Vx.L0
namespace Go.Vx.L1
section
open Go
noncomputable section
theorem main:Ez C S 1 true 71 s0=true:=by decide +kernel
end
end
section
open Go
noncomputable section
theorem ov0:qH C 0 71 s0=true:=by decide +kernel
theorem e1:Hw C 1 (kV C 0 71 s0) 25=true:=by decide +kernel
theorem e2:Hw C 1 (kV C 0 71 s0) 31=true:=by decide +kernel
end
end
section
open Go
theorem chk:Cc 70 [.agg [C.ops,C.defs]] (.bool true):=evX (n:=1000000) (by decide +kernel) (by decide +kernel) rfl
end
end Go.Vx.L1
