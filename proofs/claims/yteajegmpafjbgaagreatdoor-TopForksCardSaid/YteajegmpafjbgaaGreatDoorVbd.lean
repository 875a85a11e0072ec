/- A part of the proof of TopForks. -/
import Derived.Test.YteajegmpafjbgaaGreatDoorVai
set_option linter.all false
set_option maxRecDepth 1000000
set_option maxHeartbeats 80000000
noncomputable section
namespace Go.Vx.Tab
section
open Go
def k28:KR 136 4=true:=by decide +kernel
end
section
open Go
def k29:KR 138 2=true:=by decide +kernel
def k30:KR 139 1=true:=by decide +kernel
end
section
open Go
def k31:KR 140 1=true:=by decide +kernel
end
section
open Go
def k32:KR 144 4=true:=by decide +kernel
def k33:KR 145 1=true:=by decide +kernel
end
end Go.Vx.Tab
