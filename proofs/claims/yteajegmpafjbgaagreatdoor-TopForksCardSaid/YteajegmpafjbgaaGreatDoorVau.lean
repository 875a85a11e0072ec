/- A part of the proof of TopForks. -/
import Derived.Test.YteajegmpafjbgaaGreatDoorVar
set_option linter.all false
set_option maxRecDepth 1000000
set_option maxHeartbeats 80000000
noncomputable section
namespace Go.Vx
section
open Go
def pt1:Ur [true,true,true,false] (yE 5)=true:=by decide +kernel
def pt5:Ur [true,false,true,false] (yE 5)=true:=by decide +kernel
def pt9:Ur [false,true,true,false] (yE 5)=true:=by decide +kernel
def aEa:Ur [false,false,true,false] (yE 5)=true:=by decide +kernel
end
end Go.Vx
