/- A part of the proof of TopForks. -/
import Derived.Test.YteajegmpafjbgaaGreatDoorVai
set_option linter.all false
set_option maxRecDepth 1000000
set_option maxHeartbeats 80000000
noncomputable section
namespace Go.Vx.Tab
section
open Go
def k34:KR 146 1=true:=by decide +kernel
end
section
open Go
def k35:KR 147 1=true:=by decide +kernel
end
section
open Go
def k36:KR 148 1=true:=by decide +kernel
end
section
open Go
def k37:KR 149 1=true:=by decide +kernel
end
end Go.Vx.Tab
