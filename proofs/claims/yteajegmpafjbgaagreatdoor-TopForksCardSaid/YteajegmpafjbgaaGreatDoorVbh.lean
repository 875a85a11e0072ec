/- A part of the proof of TopForks. -/
import Derived.Test.YteajegmpafjbgaaGreatDoorVas
set_option linter.all false
set_option maxRecDepth 1000000
set_option maxHeartbeats 80000000
noncomputable section
namespace Go.Vx
section
open Go
def m0x:mF 0=true:=by decide +kernel
def m1x:mF 1=true:=by decide +kernel
def m2x:mF 2=true:=by decide +kernel
def m3x:mF 3=true:=by decide +kernel
end
section
open Go
def m4x:mF 4=true:=by decide +kernel
def m5x:mF 5=true:=by decide +kernel
end
section
open Go
def c0x:cF 0=true:=by decide +kernel
def c1x:cF 1=true:=by decide +kernel
def c2x:cF 2=true:=by decide +kernel
def c3x:cF 3=true:=by decide +kernel
def c4x:cF 4=true:=by decide +kernel
def c5x:cF 5=true:=by decide +kernel
def c6x:cF 6=true:=by decide +kernel
def c7x:cF 7=true:=by decide +kernel
def c8x:cF 8=true:=by decide +kernel
end
end Go.Vx
