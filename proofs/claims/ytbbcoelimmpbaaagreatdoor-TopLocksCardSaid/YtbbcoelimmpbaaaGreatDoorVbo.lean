/- A part of the proof of TopLocks. -/
import Derived.Test.YtbbcoelimmpbaaaGreatDoorVbg
set_option linter.all false
set_option linter.unusedVariables false
set_option linter.unusedSimpArgs false
set_option maxRecDepth 1000000
noncomputable section
namespace Go.Vx.L4
section
open Go
noncomputable section
theorem b1:Eo C 1 true 39 k1=true:=by decide +kernel
theorem ov1:qH C 1 39 k1=true:=by decide +kernel
end
end
section
open Go
noncomputable section
theorem b2:Eo C 2 true 39 k2=true:=by decide +kernel
theorem ov2:qH C 2 39 k2=true:=by decide +kernel
end
end
section
open Go
noncomputable section
theorem b3:Eo C 3 true 39 k3=true:=by decide +kernel
theorem ov3:qH C 3 39 k3=true:=by decide +kernel
end
end
section
open Go
noncomputable section
theorem b4:Eo C 4 true 39 k4=true:=by decide +kernel
theorem ov4:qH C 4 39 k4=true:=by decide +kernel
end
end
section
open Go
noncomputable section
theorem VQ:pR C 1 2 39 k1=true:=by decide +kernel
theorem adO:pR C 1 3 39 k1=true:=by decide +kernel
theorem axh:pR C 1 4 39 k1=true:=by decide +kernel
theorem aIb:pR C 1 5 39 k1=true:=by decide +kernel
end
end
section
open Go
noncomputable section
theorem adP:pR C 2 3 39 k2=true:=by decide +kernel
theorem axi:pR C 2 4 39 k2=true:=by decide +kernel
theorem aIc:pR C 2 5 39 k2=true:=by decide +kernel
end
end
section
open Go
noncomputable section
theorem axj:pR C 3 4 39 k3=true:=by decide +kernel
theorem aId:pR C 3 5 39 k3=true:=by decide +kernel
end
end
section
open Go
noncomputable section
theorem aIe:pR C 4 5 39 k4=true:=by decide +kernel
end
end
end Go.Vx.L4
