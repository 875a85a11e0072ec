/- A part of the proof of TopLocks. -/
import Derived.Test.YtbbcoelimmpbaaaGreatDoorVax
import Derived.Test.YtbbcoelimmpbaaaGreatDoorVay
set_option linter.all false
set_option linter.unusedVariables false
set_option linter.unusedSimpArgs false
set_option maxRecDepth 1000000
noncomputable section
namespace Go.Vx.Tab
section
open Go
set_option maxHeartbeats 8000000
theorem k82:TT [e81] e82=true:=by decide +kernel
theorem k83:TT [e62] e83=true:=by decide +kernel
theorem k84:TT [e58,e59] e84=true:=by decide +kernel
theorem k85:TT [e31,e49,e58,e59] e85=true:=by decide +kernel
theorem k86:TT [e58,e59] e86=true:=by decide +kernel
theorem k87:TT [e59] e87=true:=by decide +kernel
theorem k88:TT [e59] e88=true:=by decide +kernel
theorem k89:TT [e29,e47,e58,e59] e89=true:=by decide +kernel
end
section
open Go
set_option maxHeartbeats 8000000
theorem k90:TT [e58,e59] e90=true:=by decide +kernel
theorem k91:TT [e28,e44,e58,e59] e91=true:=by decide +kernel
theorem k92:TT [] e92=true:=by decide +kernel
theorem k93:TT [] e93=true:=by decide +kernel
theorem k94:TT [e43,e48,e57,e58,e59] e94=true:=by decide +kernel
theorem k95:TT [] e95=true:=by decide +kernel
theorem k96:TT [e95] e96=true:=by decide +kernel
theorem k97:TT [e19,e23,e26,e53,e54,e56,e58,e59,e94,e95,e96] e97=true:=by decide +kernel
theorem k98:TT [e94] e98=true:=by decide +kernel
theorem k99:TT [] e99=true:=by decide +kernel
theorem aJm:TT [] e100=true:=by decide +kernel
theorem aJn:TT [] zo=true:=by decide +kernel
theorem aJo:TT [] zq=true:=by decide +kernel
end
section
open Go
set_option maxHeartbeats 8000000
theorem aJp:TT [] zu=true:=by decide +kernel
theorem aJq:TT [] axy=true:=by decide +kernel
theorem aJr:TT [axy] zy=true:=by decide +kernel
theorem aJs:TT [] axz=true:=by decide +kernel
theorem aJt:TT [axz] zA=true:=by decide +kernel
theorem aJu:TT [] e108=true:=by decide +kernel
theorem aJv:TT [] e109=true:=by decide +kernel
theorem aJw:TT [] zB=true:=by decide +kernel
theorem aJx:TT [] zC=true:=by decide +kernel
theorem aJy:TT [] axA=true:=by decide +kernel
theorem aJz:TT [axA] zD=true:=by decide +kernel
theorem aJA:TT [] zF=true:=by decide +kernel
theorem aJB:TT [] e115=true:=by decide +kernel
theorem aJC:TT [] e116=true:=by decide +kernel
theorem aJD:TT [e116] e117=true:=by decide +kernel
end
section
open Go
set_option maxHeartbeats 8000000
theorem aJE:TT [e1,e2,e3,e5,e6,e8,e9,e10,e12,e13,e14,e15,e16,e64,e65,e66,e67,e68,e69,e70,e71,e72,e73,e74,e75,e76,e77,e81,e82,e97,e98,e99,e100,zo,zq,zu,zy,zA,e108,e109,zB,zC,zD,zF,e115,e117] e118=true:=by decide +kernel
end
end Go.Vx.Tab
