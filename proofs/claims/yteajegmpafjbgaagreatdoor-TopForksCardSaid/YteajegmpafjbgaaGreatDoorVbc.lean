/- A part of the proof of TopForks. -/
import Derived.Test.YteajegmpafjbgaaGreatDoorVai
set_option linter.all false
set_option maxRecDepth 1000000
set_option maxHeartbeats 80000000
noncomputable section
namespace Go.Vx.Tab
section
open Go
def k24:KR 128 2=true:=by decide +kernel
end
section
open Go
def k25:KR 129 1=true:=by decide +kernel
end
section
open Go
def k26:KR 131 2=true:=by decide +kernel
end
section
open Go
def k27:KR 132 1=true:=by decide +kernel
end
end Go.Vx.Tab
