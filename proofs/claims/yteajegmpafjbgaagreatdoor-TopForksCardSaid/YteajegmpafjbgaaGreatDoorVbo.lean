/- A part of the proof of TopForks. -/
import Derived.Test.YteajegmpafjbgaaGreatDoorVas
set_option linter.all false
set_option maxRecDepth 1000000
set_option maxHeartbeats 80000000
noncomputable section
namespace Go.Vx
section
open Go
def k8t1:gF 8 0 1=true:=by decide +kernel
def k8t2:gF 8 1 1=true:=by decide +kernel
def k8t3:gF 8 2 2=true:=by decide +kernel
end
section
open Go
def k8t5:gF 8 4 3=true:=by decide +kernel
def k8t8:gF 8 7 1=true:=by decide +kernel
end
end Go.Vx
