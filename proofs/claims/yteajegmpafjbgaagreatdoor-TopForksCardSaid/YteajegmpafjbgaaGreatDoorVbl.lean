/- A part of the proof of TopForks. -/
import Derived.Test.YteajegmpafjbgaaGreatDoorVas
set_option linter.all false
set_option maxRecDepth 1000000
set_option maxHeartbeats 80000000
noncomputable section
namespace Go.Vx
section
open Go
def k1t1:gF 1 0 1=true:=by decide +kernel
def k2t1:gF 2 0 2=true:=by decide +kernel
def k3t1:gF 3 0 3=true:=by decide +kernel
def k4t1:gF 4 0 3=true:=by decide +kernel
def k4t4:gF 4 3 1=true:=by decide +kernel
def k5t1:gF 5 0 2=true:=by decide +kernel
end
end Go.Vx
