/- A part of the proof of TopForks. -/
import Derived.Test.YteajegmpafjbgaaGreatDoorVan
set_option linter.all false
set_option maxRecDepth 1000000
set_option maxHeartbeats 80000000
noncomputable section
namespace Go.Vx
section
open Go
def pu1:KT 130 120=true:=by decide +kernel
end
section
open Go
def pu3:KT 380 126=true:=by decide +kernel
end
end Go.Vx
