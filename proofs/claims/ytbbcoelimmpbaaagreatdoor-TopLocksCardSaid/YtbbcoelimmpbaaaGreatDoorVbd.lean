/- A part of the proof of TopLocks. -/
import Derived.Test.YtbbcoelimmpbaaaGreatDoorVax
import Derived.Test.YtbbcoelimmpbaaaGreatDoorVay
set_option linter.all false
set_option linter.unusedVariables false
set_option linter.unusedSimpArgs false
set_option maxRecDepth 1000000
noncomputable section
namespace Go.Vx.Tab
section
open Go
set_option maxHeartbeats 8000000
theorem aKF:TT [am9,aaQ,e160,e161,e162,aaR,aaS,e165,e166,e167,e168,e169,e170,V9,aaT,ana,anb,aaU,aec,aed,aee,anc,Wh] e181=true:=by decide +kernel
theorem aKG:TT [am2] axL=true:=by decide +kernel
theorem aKH:TT [e58,e92,am7,axJ,QJ,QK,e154,QL,QM] axM=true:=by decide +kernel
theorem aKI:TT [e60,e61,am8,axM] axN=true:=by decide +kernel
theorem aKJ:TT [e80] e185=true:=by decide +kernel
theorem aKK:TT [] Wi=true:=by decide +kernel
theorem aKL:TT [e58] e187=true:=by decide +kernel
end
section
open Go
set_option maxHeartbeats 8000000
theorem aKM:TT [e126,e161,e162,e167,V9,Wh] Lm=true:=by decide +kernel
theorem aKN:TT [am6,aaQ,e161,e162,aaR,aaS,e165,e167,V9,aaT,aaU,Wh] e189=true:=by decide +kernel
theorem aKO:TT [am4] e190=true:=by decide +kernel
end
section
open Go
set_option maxHeartbeats 8000000
theorem aKP:TT [e98,am9,aaQ,e160,e161,e162,aaR,aaS,e165,e166,e167,e168,e169,e170,V9,aaT,ana,anb,aaU,aec,aed,aee,anc,Wh] Lp=true:=by decide +kernel
theorem aKQ:TT [amZ,aaQ,e160,e161,e162,aaR,aaS,e165,e166,e167,e170,V9,aaT,aaU,aec,aed,aee,Wh] Lr=true:=by decide +kernel
end
section
open Go
set_option maxHeartbeats 8000000
theorem aKR:TT [e181,axL] Ls=true:=by decide +kernel
theorem aKS:TT [e25,e52,e58,e59,e78,e84,e85,e86,e87,e88,e89,e90,e91,e92,e93,e97,e118,QJ,V7,QK,e152,e153,e154,QL,QM,V8,Wi,e187] aef=true:=by decide +kernel
end
end Go.Vx.Tab
