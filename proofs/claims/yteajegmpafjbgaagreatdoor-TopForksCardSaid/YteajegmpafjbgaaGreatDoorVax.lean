/- A part of the proof of TopForks. -/
import Derived.Test.YteajegmpafjbgaaGreatDoorVai
set_option linter.all false
set_option maxRecDepth 1000000
set_option maxHeartbeats 80000000
noncomputable section
namespace Go.Vx.Tab
section
open Go
def k0:KR 50 50=true:=by decide +kernel
def k1:KR 54 4=true:=by decide +kernel
end
section
open Go
def k2:KR 57 3=true:=by decide +kernel
end
section
open Go
def k3:KR 58 1=true:=by decide +kernel
end
section
open Go
def k4:KR 63 5=true:=by decide +kernel
end
end Go.Vx.Tab
