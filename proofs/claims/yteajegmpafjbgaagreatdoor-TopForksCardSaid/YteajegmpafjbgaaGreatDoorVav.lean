/- A part of the proof of TopForks. -/
import Derived.Test.YteajegmpafjbgaaGreatDoorVar
set_option linter.all false
set_option maxRecDepth 1000000
set_option maxHeartbeats 80000000
noncomputable section
namespace Go.Vx
section
open Go
def pt2:Ur [true,true,false,true] (yE 5)=true:=by decide +kernel
def pt6:Ur [true,false,false,true] (yE 5)=true:=by decide +kernel
def aD7:Ur [false,true,false,true] (yE 5)=true:=by decide +kernel
def aEb:Ur [false,false,false,true] (yE 5)=true:=by decide +kernel
end
end Go.Vx
