/- A part of the proof of TopLocks. -/
import Derived.Test.YtbbcoelimmpbaaaGreatDoorVbg
set_option linter.all false
set_option linter.unusedVariables false
set_option linter.unusedSimpArgs false
set_option maxRecDepth 1000000
noncomputable section
namespace Go.Vx.L2
section
open Go
noncomputable section
theorem b1:Eo C 1 true 39 k1=true:=by decide +kernel
theorem ov1:qH C 1 39 k1=true:=by decide +kernel
end
end
section
open Go
noncomputable section
theorem b2:Eo C 2 true 39 k2=true:=by decide +kernel
theorem ov2:qH C 2 39 k2=true:=by decide +kernel
end
end
section
open Go
noncomputable section
theorem VQ:pR C 1 2 39 k1=true:=by decide +kernel
theorem adO:pR C 1 3 39 k1=true:=by decide +kernel
end
end
section
open Go
noncomputable section
theorem adP:pR C 2 3 39 k2=true:=by decide +kernel
end
end
end Go.Vx.L2
