/- A part of the proof of TopForks. -/
import Derived.Test.YteajegmpafjbgaaGreatDoorVas
set_option linter.all false
set_option maxRecDepth 1000000
set_option maxHeartbeats 80000000
noncomputable section
namespace Go.Vx
section
open Go
def k7t1:gF 7 0 1=true:=by decide +kernel
def k7t2:gF 7 1 2=true:=by decide +kernel
def k7t4:gF 7 3 3=true:=by decide +kernel
def k7t7:gF 7 6 1=true:=by decide +kernel
end
end Go.Vx
