/- A part of the proof of TopForks. -/
import Derived.Test.YteajegmpafjbgaaGreatDoorVai
set_option linter.all false
set_option maxRecDepth 1000000
set_option maxHeartbeats 80000000
noncomputable section
namespace Go.Vx.Tab
section
open Go
def k9:KR 97 1=true:=by decide +kernel
def k10:KR 98 1=true:=by decide +kernel
end
section
open Go
def k11:KR 99 1=true:=by decide +kernel
end
section
open Go
def k12:KR 110 11=true:=by decide +kernel
end
section
open Go
def k13:KR 112 2=true:=by decide +kernel
def k14:KR 113 1=true:=by decide +kernel
end
end Go.Vx.Tab
