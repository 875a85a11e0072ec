/- A part of the proof of TopForks. -/
import Derived.Test.YteajegmpafjbgaaGreatDoorVai
set_option linter.all false
set_option maxRecDepth 1000000
set_option maxHeartbeats 80000000
noncomputable section
namespace Go.Vx.Tab
section
open Go
def k19:KR 120 1=true:=by decide +kernel
end
section
open Go
def k20:KR 122 2=true:=by decide +kernel
end
section
open Go
def k21:KR 123 1=true:=by decide +kernel
end
section
open Go
def k22:KR 125 2=true:=by decide +kernel
def k23:KR 126 1=true:=by decide +kernel
end
end Go.Vx.Tab
