/- A part of the proof of TopForks. -/
import Derived.Test.YteajegmpafjbgaaGreatDoorVai
set_option linter.all false
set_option maxRecDepth 1000000
set_option maxHeartbeats 80000000
noncomputable section
namespace Go.Vx.Tab
section
open Go
def k38:KR 150 1=true:=by decide +kernel
end
end Go.Vx.Tab
