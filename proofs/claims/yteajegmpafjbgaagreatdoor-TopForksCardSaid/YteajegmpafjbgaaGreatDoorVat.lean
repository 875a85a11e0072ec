/- A part of the proof of TopForks. -/
import Derived.Test.YteajegmpafjbgaaGreatDoorVar
set_option linter.all false
set_option maxRecDepth 1000000
set_option maxHeartbeats 80000000
noncomputable section
namespace Go.Vx
section
open Go
def pt0:Ur [true,true,true,true] (yE 5)=true:=by decide +kernel
def pt4:Ur [true,false,true,true] (yE 5)=true:=by decide +kernel
def pt8:Ur [false,true,true,true] (yE 5)=true:=by decide +kernel
def aD9:Ur [false,false,true,true] (yE 5)=true:=by decide +kernel
end
end Go.Vx
