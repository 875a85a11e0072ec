/- A part of the proof of TopForks. -/
import Derived.Test.YteajegmpafjbgaaGreatDoorVai
set_option linter.all false
set_option maxRecDepth 1000000
set_option maxHeartbeats 80000000
noncomputable section
namespace Go.Vx.Tab
section
open Go
def k15:KR 114 1=true:=by decide +kernel
end
section
open Go
def k16:KR 116 2=true:=by decide +kernel
end
section
open Go
def k17:KR 117 1=true:=by decide +kernel
end
section
open Go
def k18:KR 119 2=true:=by decide +kernel
end
end Go.Vx.Tab
