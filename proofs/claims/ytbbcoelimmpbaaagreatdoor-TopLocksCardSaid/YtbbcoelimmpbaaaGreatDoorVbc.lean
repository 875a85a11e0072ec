/- A part of the proof of TopLocks. -/
import Derived.Test.YtbbcoelimmpbaaaGreatDoorVax
import Derived.Test.YtbbcoelimmpbaaaGreatDoorVay
set_option linter.all false
set_option linter.unusedVariables false
set_option linter.unusedSimpArgs false
set_option maxRecDepth 1000000
noncomputable section
namespace Go.Vx.Tab
section
open Go
set_option maxHeartbeats 8000000
theorem aJT:TT [e1,e2,e3,e5,e6,e8,e9,e10,e12,e13,e14,e15,e16,e62,e63,e64,e65,e66,e67,e68,e69,e70,e71,e72,e73,e74,e75,e76,e77,e83,e99,e100,zo,zq,zu,zy,zA,e108,e109,zB,zC,zD,zF,e115,e117,am1,am2] axE=true:=by decide +kernel
end
section
open Go
set_option maxHeartbeats 8000000
theorem aJU:TT [] am3=true:=by decide +kernel
theorem aJV:TT [am3] am4=true:=by decide +kernel
theorem aJW:TT [] axF=true:=by decide +kernel
theorem aJX:TT [e1,e2,e3,e5,e6,e8,e9,e10,e12,e13,e14,e15,e16,e64,e65,e66,e67,e68,e69,e70,e71,e72,e73,e74,e75,e76,e77,e99,e100,zo,zq,zu,zy,zA,e108,e109,zB,zC,zD,zF,e115,e117,am3,am4,axF] e137=true:=by decide +kernel
theorem aJY:TT [e43,e58,e59] e138=true:=by decide +kernel
theorem aJZ:TT [e23,e54,e58,e59,e95,e96,e138] am5=true:=by decide +kernel
theorem aJ0:TT [e138] am6=true:=by decide +kernel
theorem aJ1:TT [e18,e55,e58,e59] axG=true:=by decide +kernel
end
section
open Go
set_option maxHeartbeats 8000000
theorem aJ2:TT [e1,e2,e3,e5,e6,e8,e9,e10,e12,e13,e14,e15,e16,e64,e65,e66,e67,e68,e69,e70,e71,e72,e73,e74,e75,e76,e77,e99,e100,zo,zq,zu,zy,zA,e108,e109,zB,zC,zD,zF,e115,e117,am5,am6,axG] axH=true:=by decide +kernel
theorem aJ3:TT [e58] e143=true:=by decide +kernel
theorem aJ4:TT [e58,e143] am7=true:=by decide +kernel
theorem aJ5:TT [e143] am8=true:=by decide +kernel
theorem aJ6:TT [e58] axI=true:=by decide +kernel
end
section
open Go
set_option maxHeartbeats 8000000
theorem aJ7:TT [e1,e2,e3,e5,e6,e8,e9,e10,e12,e13,e14,e15,e16,e64,e65,e66,e67,e68,e69,e70,e71,e72,e73,e74,e75,e76,e77,e99,e100,zo,zq,zu,zy,zA,e108,e109,zB,zC,zD,zF,e115,e117,am7,am8,axI] axJ=true:=by decide +kernel
theorem aJ8:TT [] axK=true:=by decide +kernel
theorem aJ9:TT [e99,e100,zo,zq,zu,zy,zA,e108,e109,zB,zC,zD,zF,e117] QJ=true:=by decide +kernel
theorem aKa:TT [e99,e100,zo,zq,zu,zy,zA,e108,e109,zB,zC,zD,zF,e117] V7=true:=by decide +kernel
theorem aKb:TT [e99,e100,zo,zq,zu,zy,zA,e108,e109,zB,zC,zD,zF,e117] QK=true:=by decide +kernel
theorem aKc:TT [e99,e100,zo,zq,zu,zy,zA,e108,e109,zB,zC,zD,zF,e117] e152=true:=by decide +kernel
theorem aKd:TT [e99,e100,zo,zq,zu,zy,zA,e108,e109,zB,zC,zD,zF,e117] e153=true:=by decide +kernel
theorem aKe:TT [e99,e100,zo,zq,zu,zy,zA,e108,e109,zB,zC,zD,zF,e117] e154=true:=by decide +kernel
theorem aKf:TT [e99,e100,zo,zq,zu,zy,zA,e108,e109,zB,zC,zD,zF,e117] QL=true:=by decide +kernel
theorem aKg:TT [e99,e100,zo,zq,zu,zy,zA,e108,e109,zB,zC,zD,zF,e117] QM=true:=by decide +kernel
theorem aKh:TT [e99,e100,zo,zq,zu,zy,zA,e108,e109,zB,zC,zD,zF,e117] V8=true:=by decide +kernel
theorem aKi:TT [] am9=true:=by decide +kernel
theorem aKj:TT [] aaQ=true:=by decide +kernel
theorem aKk:TT [] e160=true:=by decide +kernel
theorem aKl:TT [] e161=true:=by decide +kernel
theorem aKm:TT [] e162=true:=by decide +kernel
theorem aKn:TT [] aaR=true:=by decide +kernel
theorem aKo:TT [] aaS=true:=by decide +kernel
theorem aKp:TT [] e165=true:=by decide +kernel
theorem aKq:TT [] e166=true:=by decide +kernel
theorem aKr:TT [] e167=true:=by decide +kernel
theorem aKs:TT [] e168=true:=by decide +kernel
theorem aKt:TT [] e169=true:=by decide +kernel
theorem aKu:TT [] e170=true:=by decide +kernel
theorem aKv:TT [] V9=true:=by decide +kernel
theorem aKw:TT [] aaT=true:=by decide +kernel
theorem aKx:TT [] ana=true:=by decide +kernel
theorem aKy:TT [] anb=true:=by decide +kernel
theorem aKz:TT [] aaU=true:=by decide +kernel
theorem aKA:TT [] aec=true:=by decide +kernel
theorem aKB:TT [] aed=true:=by decide +kernel
theorem aKC:TT [] aee=true:=by decide +kernel
theorem aKD:TT [] anc=true:=by decide +kernel
theorem aKE:TT [] Wh=true:=by decide +kernel
end
end Go.Vx.Tab
