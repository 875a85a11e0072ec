/- A part of the proof of TopLocks. -/
import Derived.Test.YtbbcoelimmpbaaaGreatDoorVax
import Derived.Test.YtbbcoelimmpbaaaGreatDoorVay
set_option linter.all false
set_option linter.unusedVariables false
set_option linter.unusedSimpArgs false
set_option maxRecDepth 1000000
noncomputable section
namespace Go.Vx.Tab
section
open Go
set_option maxHeartbeats 8000000
theorem aKT:TT [e29,e47,e58,e59,e78,e84,e85,e86,e87,e88,e90,e91,e92,e93,e120,axC,QJ,V7,QK,e152,e153,e154,QL,QM,V8,Wi,e187] e195=true:=by decide +kernel
theorem aKU:TT [e28,e44,e58,e59,e86,e87,e88,e92,e93,e125,e128,QJ,V7,QK,e152,e154,QL,QM,V8,Wi,e187] aeg=true:=by decide +kernel
end
section
open Go
set_option maxHeartbeats 8000000
theorem aKV:TT [e25,e52,e58,e59,e78,e84,e85,e86,e87,e88,e89,e90,e91,e92,e93,am1,axE,QJ,V7,QK,e152,e153,e154,QL,QM,V8,e185,Wi,e187] e197=true:=by decide +kernel
theorem aKW:TT [e31,e49,e58,e59,e78,e84,e86,e87,e88,e90,e91,e92,e93,am5,axH,QJ,V7,QK,e152,e153,e154,QL,QM,V8,Wi,e187] aeh=true:=by decide +kernel
end
end Go.Vx.Tab
