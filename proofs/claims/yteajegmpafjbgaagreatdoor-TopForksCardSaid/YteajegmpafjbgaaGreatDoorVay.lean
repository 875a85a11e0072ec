/- A part of the proof of TopForks. -/
import Derived.Test.YteajegmpafjbgaaGreatDoorVai
set_option linter.all false
set_option maxRecDepth 1000000
set_option maxHeartbeats 80000000
noncomputable section
namespace Go.Vx.Tab
section
open Go
def k5:KR 64 1=true:=by decide +kernel
end
section
open Go
def k6:KR 70 6=true:=by decide +kernel
end
section
open Go
def k7:KR 83 13=true:=by decide +kernel
end
section
open Go
def k8:KR 96 13=true:=by decide +kernel
end
end Go.Vx.Tab
