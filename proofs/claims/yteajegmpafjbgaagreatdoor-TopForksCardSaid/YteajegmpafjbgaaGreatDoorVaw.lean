/- A part of the proof of TopForks. -/
import Derived.Test.YteajegmpafjbgaaGreatDoorVar
set_option linter.all false
set_option maxRecDepth 1000000
set_option maxHeartbeats 80000000
noncomputable section
namespace Go.Vx
section
open Go
def pt3:Ur [true,true,false,false] (yE 5)=true:=by decide +kernel
def pt7:Ur [true,false,false,false] (yE 5)=true:=by decide +kernel
def aD8:Ur [false,true,false,false] (yE 5)=true:=by decide +kernel
def aEc:Ur [false,false,false,false] (yE 5)=true:=by decide +kernel
def NY:Ur [] (yE 3)=true:=by decide +kernel
end
end Go.Vx
