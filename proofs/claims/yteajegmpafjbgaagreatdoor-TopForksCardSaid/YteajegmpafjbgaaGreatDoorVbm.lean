/- A part of the proof of TopForks. -/
import Derived.Test.YteajegmpafjbgaaGreatDoorVas
set_option linter.all false
set_option maxRecDepth 1000000
set_option maxHeartbeats 80000000
noncomputable section
namespace Go.Vx
section
open Go
def k5t3:gF 5 2 3=true:=by decide +kernel
def k6t1:gF 6 0 2=true:=by decide +kernel
def k6t3:gF 6 2 3=true:=by decide +kernel
def k6t6:gF 6 5 1=true:=by decide +kernel
end
end Go.Vx
