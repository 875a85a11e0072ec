/- A part of the proof of TopLocks. -/
import Derived.Test.YtbbcoelimmpbaaaGreatDoorVax
import Derived.Test.YtbbcoelimmpbaaaGreatDoorVay
set_option linter.all false
set_option linter.unusedVariables false
set_option linter.unusedSimpArgs false
set_option maxRecDepth 1000000
noncomputable section
namespace Go.Vx.Tab
section
open Go
set_option maxHeartbeats 8000000
theorem aJF:TT [e43,e57,e58,e59] e119=true:=by decide +kernel
theorem aJG:TT [e23,e26,e53,e54,e58,e59,e95,e96,e119] e120=true:=by decide +kernel
theorem aJH:TT [e119] amZ=true:=by decide +kernel
theorem aJI:TT [e21,e50,e55,e58,e59] axB=true:=by decide +kernel
end
section
open Go
set_option maxHeartbeats 8000000
theorem aJJ:TT [e1,e2,e3,e5,e6,e8,e9,e10,e12,e13,e14,e15,e16,e64,e65,e66,e67,e68,e69,e70,e71,e72,e73,e74,e75,e76,e77,e99,e100,zo,zq,zu,zy,zA,e108,e109,zB,zC,zD,zF,e115,e117,e120,amZ,axB] axC=true:=by decide +kernel
end
section
open Go
set_option maxHeartbeats 8000000
theorem aJK:TT [e58,e59] am0=true:=by decide +kernel
theorem aJL:TT [e58,e59,e95,am0] e125=true:=by decide +kernel
theorem aJM:TT [am0] e126=true:=by decide +kernel
theorem aJN:TT [e30,e58,e59] e127=true:=by decide +kernel
theorem aJO:TT [e1,e2,e3,e5,e6,e8,e9,e10,e12,e13,e14,e15,e16,e64,e65,e66,e67,e68,e69,e70,e71,e72,e73,e74,e75,e76,e77,e99,e100,zo,zq,zu,zy,zA,e108,e109,zB,zC,zD,zF,e115,e117,e125,e126,e127] e128=true:=by decide +kernel
end
section
open Go
set_option maxHeartbeats 8000000
theorem aJP:TT [e43,e48,e57,e58,e59] e129=true:=by decide +kernel
theorem aJQ:TT [e19,e23,e26,e53,e54,e56,e58,e59] axD=true:=by decide +kernel
theorem aJR:TT [e95,e96,e129,axD] am1=true:=by decide +kernel
theorem aJS:TT [e129] am2=true:=by decide +kernel
end
end Go.Vx.Tab
