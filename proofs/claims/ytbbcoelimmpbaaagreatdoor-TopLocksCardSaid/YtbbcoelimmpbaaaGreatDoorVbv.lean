/- A part of the proof of TopLocks. -/
import Derived.KernelRfl
import Derived.Test.YtbbcoelimmpbaaaGreatDoorVaw
import Derived.Test.YtbbcoelimmpbaaaGreatDoorVaz
import Derived.Test.YtbbcoelimmpbaaaGreatDoorVba
import Derived.Test.YtbbcoelimmpbaaaGreatDoorVbb
import Derived.Test.YtbbcoelimmpbaaaGreatDoorVbc
import Derived.Test.YtbbcoelimmpbaaaGreatDoorVbd
import Derived.Test.YtbbcoelimmpbaaaGreatDoorVbe
import Derived.Test.YtbbcoelimmpbaaaGreatDoorVbf
import Derived.Test.YtbbcoelimmpbaaaGreatDoorVbp
set_option linter.all false
set_option linter.unusedVariables false
set_option linter.unusedSimpArgs false
set_option maxRecDepth 1000000
noncomputable section
open Go Go.RowKit
namespace Go.Vx.Tab
theorem hw {l:List En} {e:En} (h:TT l e=true) (hl:Le l):fB e:=aI hl h
theorem ok0:fB e0:=hw k0 ah
theorem ok1:fB e1:=hw k1 ⟨ok0,ah⟩
theorem ok2:fB e2:=hw k2 ah
theorem ok3:fB e3:=hw k3 ah
theorem ok4:fB e4:=hw k4 ah
theorem ok5:fB e5:=hw k5 ⟨ok4,ah⟩
theorem ok6:fB e6:=hw k6 ah
theorem ok7:fB e7:=hw k7 ah
theorem ok8:fB e8:=hw k8 ⟨ok7,ah⟩
theorem ok9:fB e9:=hw k9 ah
theorem TM:fB e10:=hw k10 ah
theorem aBW:fB e11:=hw k11 ah
theorem TN:fB e12:=hw k12 ⟨aBW,ah⟩
theorem TP:fB e13:=hw k13 ah
theorem TQ:fB e14:=hw k14 ah
theorem TR:fB e15:=hw k15 ah
theorem ok16:fB e16:=hw k16 ah
theorem aoM:fB e17:=hw k17 ah
theorem aCd:fB e18:=hw k18 ⟨aoM,ah⟩
theorem aCl:fB e19:=hw k19 ah
theorem ayS:fB e20:=hw k20 ah
theorem aCv:fB e21:=hw k21 ⟨aoM,ayS,ah⟩
theorem aCw:fB e22:=hw k22 ah
theorem aoN:fB e23:=hw k23 ah
theorem aoO:fB e24:=hw k24 ah
theorem aCx:fB e25:=hw k25 ⟨aCv,aoO,ah⟩
theorem ayT:fB e26:=hw k26 ah
theorem aCy:fB e27:=hw k27 ⟨aoM,ayS,aCw,ah⟩
theorem aCz:fB e28:=hw k28 ah
theorem aCA:fB e29:=hw k29 ⟨aCd,aoO,ah⟩
theorem aCB:fB e30:=hw k30 ah
theorem aCC:fB e31:=hw k31 ⟨aoO,aCB,ah⟩
theorem ok32:fB e32:=hw k32 ah
theorem aLx:fB e33:=hw k33 ⟨ok32,ah⟩
theorem aLy:fB e34:=hw k34 ah
theorem aLz:fB e35:=hw k35 ⟨aLy,ah⟩
theorem aLA:fB e36:=hw k36 ah
theorem aLB:fB e37:=hw k37 ⟨aLA,ah⟩
theorem aLC:fB e38:=hw k38 ah
theorem aLD:fB e39:=hw k39 ⟨aLC,ah⟩
theorem aLE:fB e40:=hw k40 ah
theorem aLF:fB e41:=hw k41 ⟨aLE,ah⟩
theorem aCD:fB e42:=hw k42 ah
theorem aoP:fB e43:=hw k43 ah
theorem aCE:fB e44:=hw k44 ah
theorem ayU:fB e45:=hw k45 ah
theorem aoQ:fB e46:=hw k46 ah
theorem aCF:fB e47:=hw k47 ⟨ayU,aoQ,ah⟩
theorem aCG:fB e48:=hw k48 ah
theorem aCH:fB e49:=hw k49 ⟨aoQ,ah⟩
theorem ayV:fB e50:=hw k50 ah
theorem aCI:fB e51:=hw k51 ah
theorem aCJ:fB e52:=hw k52 ⟨ayU,aoQ,aCI,ah⟩
theorem ayW:fB e53:=hw k53 ah
theorem aoR:fB e54:=hw k54 ah
theorem aoS:fB e55:=hw k55 ah
theorem aCK:fB e56:=hw k56 ah
theorem ayX:fB e57:=hw k57 ah
theorem pq:fB e58:=hw k58 ah
theorem qB:fB e59:=hw k59 ah
theorem aCL:fB e60:=hw k60 ah
theorem aLG:fB e61:=hw k61 ⟨aCL,ah⟩
theorem ayY:fB e62:=hw k62 ⟨aoM,ayS,aCw,aCD,ayV,aoS,pq,qB,ah⟩
theorem aLH:fB e63:=hw k63 ⟨ayY,ah⟩
theorem XV:fB e64:=hw k64 ⟨ok0,ok1,ah⟩
theorem XW:fB e65:=hw k65 ⟨ok2,ah⟩
theorem XY:fB e66:=hw k66 ⟨ok3,ah⟩
theorem XZ:fB e67:=hw k67 ⟨ok4,ok5,ah⟩
theorem X0:fB e68:=hw k68 ah
theorem X3:fB e69:=hw k69 ⟨ok6,ah⟩
theorem X4:fB e70:=hw k70 ⟨ok7,ok8,ah⟩
theorem X5:fB e71:=hw k71 ⟨ok9,ah⟩
theorem X7:fB e72:=hw k72 ⟨TM,ah⟩
theorem X8:fB e73:=hw k73 ⟨aBW,TN,ah⟩
theorem X9:fB e74:=hw k74 ⟨TP,ah⟩
theorem Ya:fB e75:=hw k75 ⟨TQ,ah⟩
theorem Yb:fB e76:=hw k76 ⟨TR,ah⟩
theorem Yc:fB e77:=hw k77 ⟨ok16,ah⟩
theorem aoT:fB e78:=hw k78 ah
theorem aLI:fB e79:=hw k79 ⟨aoO,aCy,ayU,aoQ,aCI,pq,qB,ah⟩
theorem aLJ:fB e80:=hw k80 ⟨aLI,ah⟩
theorem aCM:fB e81:=hw k81 ⟨aCy,aCD,ayV,aoS,pq,qB,ah⟩
theorem aLK:fB e82:=hw k82 ⟨aCM,ah⟩
theorem aLL:fB e83:=hw k83 ⟨ayY,ah⟩
theorem aoU:fB e84:=hw k84 ⟨pq,qB,ah⟩
theorem ayZ:fB e85:=hw k85 ⟨aCC,aCH,pq,qB,ah⟩
theorem afZ:fB e86:=hw k86 ⟨pq,qB,ah⟩
theorem af0:fB e87:=hw k87 ⟨qB,ah⟩
theorem af2:fB e88:=hw k88 ⟨qB,ah⟩
theorem aCN:fB e89:=hw k89 ⟨aCA,aCF,pq,qB,ah⟩
theorem aoV:fB e90:=hw k90 ⟨pq,qB,ah⟩
theorem aoW:fB e91:=hw k91 ⟨aCz,aCE,pq,qB,ah⟩
theorem aco:fB e92:=hw k92 ah
theorem af4:fB e93:=hw k93 ah
theorem aCO:fB e94:=hw k94 ⟨aoP,aCG,ayX,pq,qB,ah⟩
theorem acp:fB e95:=hw k95 ah
theorem aoX:fB e96:=hw k96 ⟨acp,ah⟩
theorem aCP:fB e97:=hw k97 ⟨aCl,aoN,ayT,ayW,aoR,aCK,pq,qB,aCO,acp,aoX,ah⟩
theorem aCQ:fB e98:=hw k98 ⟨aCO,ah⟩
theorem BZ:fB e99:=hw k99 ah
theorem sV:fB e100:=hw aJm ah
theorem sW:fB zo:=hw aJn ah
theorem sZ:fB zq:=hw aJo ah
theorem tq:fB zu:=hw aJp ah
theorem aBU:fB axy:=hw aJq ah
theorem tu:fB zy:=hw aJr ⟨aBU,ah⟩
theorem aBV:fB axz:=hw aJs ah
theorem tC:fB zA:=hw aJt ⟨aBV,ah⟩
theorem tH:fB e108:=hw aJu ah
theorem tJ:fB e109:=hw aJv ah
theorem tK:fB zB:=hw aJw ah
theorem tN:fB zC:=hw aJx ah
theorem aBX:fB axA:=hw aJy ah
theorem tV:fB zD:=hw aJz ⟨aBX,ah⟩
theorem tX:fB zF:=hw aJA ah
theorem JR:fB e115:=hw aJB ah
theorem aBY:fB e116:=hw aJC ah
theorem tY:fB e117:=hw aJD ⟨aBY,ah⟩
theorem aBZ:fB e118:=hw aJE ⟨ok1,ok2,ok3,ok5,ok6,ok8,ok9,TM,TN,TP,TQ,TR,ok16,XV,XW,XY,XZ,X0,X3,X4,X5,X7,X8,X9,Ya,Yb,Yc,aCM,aLK,aCP,aCQ,BZ,sV,sW,sZ,tq,tu,tC,tH,tJ,tK,tN,tV,tX,JR,tY,ah⟩
theorem arK:fB e119:=hw aJF ⟨aoP,ayX,pq,qB,ah⟩
theorem arL:fB e120:=hw aJG ⟨aoN,ayT,ayW,aoR,pq,qB,acp,aoX,arK,ah⟩
theorem arM:fB amZ:=hw aJH ⟨arK,ah⟩
theorem aB0:fB axB:=hw aJI ⟨aCv,ayV,aoS,pq,qB,ah⟩
theorem aB1:fB axC:=hw aJJ ⟨ok1,ok2,ok3,ok5,ok6,ok8,ok9,TM,TN,TP,TQ,TR,ok16,XV,XW,XY,XZ,X0,X3,X4,X5,X7,X8,X9,Ya,Yb,Yc,BZ,sV,sW,sZ,tq,tu,tC,tH,tJ,tK,tN,tV,tX,JR,tY,arL,arM,aB0,ah⟩
theorem arN:fB am0:=hw aJK ⟨pq,qB,ah⟩
theorem arO:fB e125:=hw aJL ⟨pq,qB,acp,arN,ah⟩
theorem arP:fB e126:=hw aJM ⟨arN,ah⟩
theorem aB2:fB e127:=hw aJN ⟨aCB,pq,qB,ah⟩
theorem aB3:fB e128:=hw aJO ⟨ok1,ok2,ok3,ok5,ok6,ok8,ok9,TM,TN,TP,TQ,TR,ok16,XV,XW,XY,XZ,X0,X3,X4,X5,X7,X8,X9,Ya,Yb,Yc,BZ,sV,sW,sZ,tq,tu,tC,tH,tJ,tK,tN,tV,tX,JR,tY,arO,arP,aB2,ah⟩
theorem arQ:fB e129:=hw aJP ⟨aoP,aCG,ayX,pq,qB,ah⟩
theorem aB4:fB axD:=hw aJQ ⟨aCl,aoN,ayT,ayW,aoR,aCK,pq,qB,ah⟩
theorem arR:fB am1:=hw aJR ⟨acp,aoX,arQ,aB4,ah⟩
theorem arS:fB am2:=hw aJS ⟨arQ,ah⟩
theorem aB5:fB axE:=hw aJT ⟨ok1,ok2,ok3,ok5,ok6,ok8,ok9,TM,TN,TP,TQ,TR,ok16,ayY,aLH,XV,XW,XY,XZ,X0,X3,X4,X5,X7,X8,X9,Ya,Yb,Yc,aLL,BZ,sV,sW,sZ,tq,tu,tC,tH,tJ,tK,tN,tV,tX,JR,tY,arR,arS,ah⟩
theorem arT:fB am3:=hw aJU ah
theorem arU:fB am4:=hw aJV ⟨arT,ah⟩
theorem aB6:fB axF:=hw aJW ah
theorem aB7:fB e137:=hw aJX ⟨ok1,ok2,ok3,ok5,ok6,ok8,ok9,TM,TN,TP,TQ,TR,ok16,XV,XW,XY,XZ,X0,X3,X4,X5,X7,X8,X9,Ya,Yb,Yc,BZ,sV,sW,sZ,tq,tu,tC,tH,tJ,tK,tN,tV,tX,JR,tY,arT,arU,aB6,ah⟩
theorem arV:fB e138:=hw aJY ⟨aoP,pq,qB,ah⟩
theorem arW:fB am5:=hw aJZ ⟨aoN,aoR,pq,qB,acp,aoX,arV,ah⟩
theorem arX:fB am6:=hw aJ0 ⟨arV,ah⟩
theorem aB8:fB axG:=hw aJ1 ⟨aCd,aoS,pq,qB,ah⟩
theorem aB9:fB axH:=hw aJ2 ⟨ok1,ok2,ok3,ok5,ok6,ok8,ok9,TM,TN,TP,TQ,TR,ok16,XV,XW,XY,XZ,X0,X3,X4,X5,X7,X8,X9,Ya,Yb,Yc,BZ,sV,sW,sZ,tq,tu,tC,tH,tJ,tK,tN,tV,tX,JR,tY,arW,arX,aB8,ah⟩
theorem arY:fB e143:=hw aJ3 ⟨pq,ah⟩
theorem arZ:fB am7:=hw aJ4 ⟨pq,arY,ah⟩
theorem ar0:fB am8:=hw aJ5 ⟨arY,ah⟩
theorem aCa:fB axI:=hw aJ6 ⟨pq,ah⟩
theorem aCb:fB axJ:=hw aJ7 ⟨ok1,ok2,ok3,ok5,ok6,ok8,ok9,TM,TN,TP,TQ,TR,ok16,XV,XW,XY,XZ,X0,X3,X4,X5,X7,X8,X9,Ya,Yb,Yc,BZ,sV,sW,sZ,tq,tu,tC,tH,tJ,tK,tN,tV,tX,JR,tY,arZ,ar0,aCa,ah⟩
theorem aCc:fB axK:=hw aJ8 ah
theorem Nj:fB QJ:=hw aJ9 ⟨BZ,sV,sW,sZ,tq,tu,tC,tH,tJ,tK,tN,tV,tX,tY,ah⟩
theorem TU:fB V7:=hw aKa ⟨BZ,sV,sW,sZ,tq,tu,tC,tH,tJ,tK,tN,tV,tX,tY,ah⟩
theorem Nk:fB QK:=hw aKb ⟨BZ,sV,sW,sZ,tq,tu,tC,tH,tJ,tK,tN,tV,tX,tY,ah⟩
theorem TV:fB e152:=hw aKc ⟨BZ,sV,sW,sZ,tq,tu,tC,tH,tJ,tK,tN,tV,tX,tY,ah⟩
theorem ZI:fB e153:=hw aKd ⟨BZ,sV,sW,sZ,tq,tu,tC,tH,tJ,tK,tN,tV,tX,tY,ah⟩
theorem Nl:fB e154:=hw aKe ⟨BZ,sV,sW,sZ,tq,tu,tC,tH,tJ,tK,tN,tV,tX,tY,ah⟩
theorem Np:fB QL:=hw aKf ⟨BZ,sV,sW,sZ,tq,tu,tC,tH,tJ,tK,tN,tV,tX,tY,ah⟩
theorem Nq:fB QM:=hw aKg ⟨BZ,sV,sW,sZ,tq,tu,tC,tH,tJ,tK,tN,tV,tX,tY,ah⟩
theorem TW:fB V8:=hw aKh ⟨BZ,sV,sW,sZ,tq,tu,tC,tH,tJ,tK,tN,tV,tX,tY,ah⟩
theorem ar1:fB am9:=hw aKi ah
theorem ZJ:fB aaQ:=hw aKj ah
theorem afT:fB e160:=hw aKk ah
theorem TY:fB e161:=hw aKl ah
theorem Ua:fB e162:=hw aKm ah
theorem ZK:fB aaR:=hw aKn ah
theorem ZL:fB aaS:=hw aKo ah
theorem ZM:fB e165:=hw aKp ah
theorem afU:fB e166:=hw aKq ah
theorem Ub:fB e167:=hw aKr ah
theorem ar4:fB e168:=hw aKs ah
theorem ar5:fB e169:=hw aKt ah
theorem afV:fB e170:=hw aKu ah
theorem Uc:fB V9:=hw aKv ah
theorem ZN:fB aaT:=hw aKw ah
theorem ar6:fB ana:=hw aKx ah
theorem ar7:fB anb:=hw aKy ah
theorem ZO:fB aaU:=hw aKz ah
theorem afW:fB aec:=hw aKA ah
theorem afX:fB aed:=hw aKB ah
theorem afY:fB aee:=hw aKC ah
theorem ar8:fB anc:=hw aKD ah
theorem Ud:fB Wh:=hw aKE ah
theorem aCe:fB e181:=hw aKF ⟨ar1,ZJ,afT,TY,Ua,ZK,ZL,ZM,afU,Ub,ar4,ar5,afV,Uc,ZN,ar6,ar7,ZO,afW,afX,afY,ar8,Ud,ah⟩
theorem aCf:fB axL:=hw aKG ⟨arS,ah⟩
theorem aCg:fB axM:=hw aKH ⟨pq,aco,arZ,aCb,Nj,Nk,Nl,Np,Nq,ah⟩
theorem aCh:fB axN:=hw aKI ⟨aCL,aLG,ar0,aCg,ah⟩
theorem aCi:fB e185:=hw aKJ ⟨aLJ,ah⟩
theorem Ue:fB Wi:=hw aKK ah
theorem Uf:fB e187:=hw aKL ⟨pq,ah⟩
theorem aCj:fB Lm:=hw aKM ⟨arP,TY,Ua,Ub,Uc,Ud,ah⟩
theorem aCk:fB e189:=hw aKN ⟨arX,ZJ,TY,Ua,ZK,ZL,ZM,Ub,Uc,ZN,ZO,Ud,ah⟩
theorem aCm:fB e190:=hw aKO ⟨arU,ah⟩
theorem aCn:fB Lp:=hw aKP ⟨aCQ,ar1,ZJ,afT,TY,Ua,ZK,ZL,ZM,afU,Ub,ar4,ar5,afV,Uc,ZN,ar6,ar7,ZO,afW,afX,afY,ar8,Ud,ah⟩
theorem aCo:fB Lr:=hw aKQ ⟨arM,ZJ,afT,TY,Ua,ZK,ZL,ZM,afU,Ub,afV,Uc,ZN,ZO,afW,afX,afY,Ud,ah⟩
theorem aCp:fB Ls:=hw aKR ⟨aCe,aCf,ah⟩
theorem aCq:fB aef:=hw aKS ⟨aCx,aCJ,pq,qB,aoT,aoU,ayZ,afZ,af0,af2,aCN,aoV,aoW,aco,af4,aCP,aBZ,Nj,TU,Nk,TV,ZI,Nl,Np,Nq,TW,Ue,Uf,ah⟩
theorem aCr:fB e195:=hw aKT ⟨aCA,aCF,pq,qB,aoT,aoU,ayZ,afZ,af0,af2,aoV,aoW,aco,af4,arL,aB1,Nj,TU,Nk,TV,ZI,Nl,Np,Nq,TW,Ue,Uf,ah⟩
theorem aCs:fB aeg:=hw aKU ⟨aCz,aCE,pq,qB,afZ,af0,af2,aco,af4,arO,aB3,Nj,TU,Nk,TV,Nl,Np,Nq,TW,Ue,Uf,ah⟩
theorem aCt:fB e197:=hw aKV ⟨aCx,aCJ,pq,qB,aoT,aoU,ayZ,afZ,af0,af2,aCN,aoV,aoW,aco,af4,arR,aB5,Nj,TU,Nk,TV,ZI,Nl,Np,Nq,TW,aCi,Ue,Uf,ah⟩
theorem aCu:fB aeh:=hw aKW ⟨aCC,aCH,pq,qB,aoT,aoU,afZ,af0,af2,aoV,aoW,aco,af4,arW,aB9,Nj,TU,Nk,TV,ZI,Nl,Np,Nq,TW,Ue,Uf,ah⟩
section
open Go Go.RowKit Go.Proofs
noncomputable def lft:Code→Code|.seq a _=>a|c=>c
noncomputable def rgt:Code→Code|.seq _ b=>b|c=>c
noncomputable def bdy:Code→Code|.block _ c=>c|.loop c=>c|c=>c
noncomputable def body7:Code:=(Tryz.f6.body).getD .skip
noncomputable def dd (n:Nat):Code:=Nat.rec body7 (fun _ c=>rgt c) n
noncomputable def c0:=lft (dd 0)
noncomputable def c1:=lft (dd 1)
noncomputable def cA2:=lft (dd 2)
noncomputable def c4:=lft (dd 3)
noncomputable def cA5:=lft (dd 4)
noncomputable def c7:=lft (dd 5)
noncomputable def c8:=lft (lft (dd 6))
noncomputable def cL:=bdy (bdy (rgt (lft (dd 6))))
noncomputable def c9:=lft cL
noncomputable def cB:=lft (rgt (rgt cL))
noncomputable def c10:=lft (bdy cB)
noncomputable def c11:=rgt (bdy cB)
noncomputable def c12:=rgt (rgt (rgt cL))
noncomputable def c13:=lft (dd 7)
noncomputable def opsOf:Code→Array Oper|.region _ o _=>o|_=>#[]
theorem Y9:Tryz.f6.body=some (.seq c0 (.seq c1 (.seq cA2 (.seq c4 (.seq cA5 (.seq c7 (.seq (.seq c8 (.block 0 (.loop (.seq c9 (.seq (.cond (.tmp 36) .skip (.exit 0)) (.seq (.block 1 (.seq c10 c11)) c12)))))) (.seq c13 .ret)))))))):=by kernel_rfl
def aT:List V:=[M [b 109,b 97,b 105,b 110,b 32,b 61,b 32,b 112,b 114,b 105,b 110,b 116,b 32,b 49,b 10]]
def rT:V:=U [S [109,97,105,110,58,32,73,79,32,85,110,105,116,10],A [j 0,j 0],j 0]
noncomputable abbrev vc (c:Code):aH:=aQ Tryz.prog qQ 6 c
noncomputable def lB:List (Nat×List V×V):=[e190,e137,axK]
theorem allB:Le lB:=⟨aCm,aB7,aCc,trivial⟩
noncomputable def WY:Ih:=runM (mOf lB) fns 1000
theorem H8:La Tryz.prog qQ WY:=lW (Pq allB) _
noncomputable def oZ:Out→List V:=Out.rec [] (fun f _ _=>f) (fun _ f _ _=>f) (fun _ _=>[])
noncomputable def zJ:Out→Lo:=Out.rec [] (fun _ l _=>l) (fun _ _ l _=>l) (fun _ _=>[])
noncomputable def vF:Out→H:=Out.rec emp (fun _ _ h=>h) (fun _ _ _ h=>h) (fun _ h=>h)
noncomputable def Ei:Out→Bool:=Out.rec false (fun _ _ _=>true) (fun _ _ _ _=>false) (fun _ _=>false)
theorem uy {o:Out} (h:Ei o=true):o=.norm (oZ o) (zJ o) (vF o):=by cases o<;>first|rfl|cases h
noncomputable def o0:Out:=WY (.code (vc c0)) (pad 52 aT) [] emp
theorem aLn:Ei o0=true:=by decide +kernel
noncomputable def o1:Out:=WY (.code (vc c1)) (oZ o0) (zJ o0) (vF o0)
theorem aLo:Ei o1=true:=by decide +kernel
noncomputable def o2:Out:=WY (.code (vc cA2)) (oZ o1) (zJ o1) (vF o1)
theorem aLp:Ei o2=true:=by decide +kernel
noncomputable def o4:Out:=WY (.code (vc c4)) (oZ o2) (zJ o2) (vF o2)
theorem aLq:Ei o4=true:=by decide +kernel
noncomputable def oP:Out:=WY (.code (vc cA5)) (oZ o4) (zJ o4) (vF o4)
theorem aLw:Ei oP=true:=by decide +kernel
theorem aLv:(vF oP).next=0:=by decide +kernel
theorem ayR:(oZ oP).length=52:=by decide +kernel
noncomputable def v8:V:=aO (oZ oP) 8
theorem aL3:(match v8 with|.bf _ _=>false|_=>true)=true:=by kernel_rfl
theorem aBT:dQ (zJ oP) 3=some [.int .i64 0,.int .i64 0]:=by kernel_rfl
theorem aLu:aO (oZ oP) 3=.bf 3 0:=by kernel_rfl
end
end Go.Vx.Tab
namespace Go.Vx
section
variable {P:Program} {Hn H2:Hints} {comp:FuncId→Code→aH} {g g' g'':G} {σ σ' oJ:H} {w w' w'':World} {β β' β'':Nat→Option Nat} {lo lo':Lo} {fr fr' F F':List V} {A A':Act} {B0:Nat} {ro:Option Nat}
def aAi (P:Program) (o:Oper):Prop:=∀ (a:Act) (w:World) (d:Deferred) (w':World),(execOp a.eval o).run P w≠.ok (.defer d) w'
theorem UG {s:Sem Value} {d:Deferred}:((do pure (.value (←s)):Sem Next).run P w)≠.ok (.defer d) w':=by
 rw [aA]
 cases s.run P w with
 |ok x w1=>intro h;cases h
 |halt x w1=>intro h;cases h
theorem aC0 {s:Sem Unit} {d:Deferred}:((do s;pure .skip:Sem Next).run P w)≠.ok (.defer d) w':=by
 rw [aA]
 cases s.run P w with
 |ok x w1=>intro h;cases h
 |halt x w1=>intro h;cases h
theorem MG {o:Oper} {c:Call} {f:FuncId} (ho:o.op=.call c) (hc:c.callee=.value (.func f)) (a:Act):(execOp a.eval o).run P w=(callFunc f (c.args.map a.eval)).run P w:=by
 simp only [execOp,ho,resolve,hc,Act.eval,Deferred.ofValue]
 rw [aA]
 simp only [Sem.run_pure,Result.andThen,invoke,Array.append_empty,Array.empty_append]
 try rfl
def acr (P:Program) (o:Oper):Bool:=match o.op with
 |.move _|.assign _|.alloc _|.load _ _|.store _ _ _|.binOp _ _ _ _ _|.fieldAddr _ _ _|.indexAddr _ _ _|.build _ _|.extract _ _=>true
 |.call c=>match c.callee with
  |.builtin .len=>true
  |.value (.func f)=>match P.funcs[f]? with
   |some fn=>fn.body.isSome&&fn.name != "runtime.NumGoroutine"
   |none=>false
  |_=>false
 |_=>false
theorem ZE {o:Oper} (h:acr P o=true):aAi P o:=by
 intro a w d w' e
 unfold acr at h
 split at h
 all_goals first
  |(rename_i x ho;simp only [execOp,ho] at e;exact UG e)
  |(rename_i x y ho;simp only [execOp,ho] at e;exact UG e)
  |(rename_i x y z ho;simp only [execOp,ho] at e;exact UG e)
  |(rename_i x y z ho;simp only [execOp,ho] at e;exact aC0 e)
  |(rename_i x y z u v ho;simp only [execOp,ho] at e;exact UG e)
  |(rename_i x ho;simp only [execOp,ho,Sem.run_pure] at e;cases e)
  |cases h
  |skip
 rename_i c ho
 split at h
 ·rename_i hc
  simp only [execOp,ho,resolve,hc] at e
  rw [aA] at e
  simp only [Sem.run_pure,Result.andThen,invoke,builtin] at e
  exact UG e
 ·rename_i f hc
  split at h
  ·rename_i fn hf
   simp only [au,bne_iff_ne,ne_eq] at h
   obtain ⟨b,hb⟩:=Option.isSome_iff_exists.1 h.1
   rw [MG ho hc,qI hf hb h.2] at e
   cases e
  ·cases h
 ·cases h
theorem Ns {F:Fence} {n:Nat} {o:Oper} {K:Act→World→Prop} {Q:Exit→Act→World→Prop} (hd:aAi P o) (hnd:∀ c,o.op≠.defer c) (h:o.wpIn F n P A w K Q):o.wpIn F n P A w (fun a' w'=>K a' w'∧a'.defers=A.defers) Q:=by
 unfold Oper.wpIn at *
 refine ⟨h.1,?_⟩
 have hh:=h.2
 have hse:(o.semAt F.round A.eval)=execOp A.eval o:=Oper.semAt_eq _ _ _ hnd
 rw [hse] at hh ⊢
 have hn:=hd A w
 generalize (execOp A.eval o).run P w=r at *
 cases r with
 |ok x w' =>
  cases x<;>simp only [Oper.uponIn] at hh ⊢ <;>
   first
    |exact ⟨hh,put_defers _ _ _⟩
    |exact absurd rfl (hn _ _)
    |exact ⟨hh.1,CallsIn.mono hh.2 (fun e w'' he=>by cases e<;>first|exact ⟨he,put_defers _ _ _⟩|exact he)⟩
    |exact ⟨hh.1,RowsIn.mono hh.2 (fun _ _ he=>⟨he,put_defers _ _ _⟩)⟩
    |exact ⟨hh.1,RoundIn.mono hh.2 (fun e w'' he=>by cases e<;>first|exact ⟨he,put_defers _ _ _⟩|exact he)⟩
 |halt x w'=>cases x<;>simp only [Oper.uponIn] at hh ⊢<;>exact hh
def xP (P:Program) (ops:Array Oper):Bool:=ops.all fun o=>acr P o
theorem Nr {ops:Array Oper} (h:xP P ops=true) {i:Nat} {o:Oper} (ho:ops[i]?=some o):acr P o=true:=by
 unfold xP at h
 rw [Array.all_eq_true] at h
 obtain ⟨hi,rfl⟩:=fG.1 ho
 exact h i hi
theorem ZP {o:Oper} (h:acr P o=true):∀ c,o.op≠.defer c:=by
 intro c hc
 unfold acr at h
 rw [hc] at h
 cases h
theorem Vl {F:Fence} {n:Nat} {ops:Array Oper} {i:Nat} {K:Act→World→Prop} {Q:Exit→Act→World→Prop} (hok:xP P ops=true) (h:wpOpIn F n P ops Q i K A w):wpOpIn F n P ops Q i (fun a' w'=>K a' w'∧a'.defers=A.defers) A w:=by
 unfold wpOpIn at *
 split
 ·rename_i ho;rw [ho] at h;exact ⟨h,rfl⟩
 ·rename_i o ho
  rw [ho] at h
  have hk:=Nr hok ho
  simp only at h
  split
  ·rename_i hw;rw [if_pos hw] at h;exact Ns (ZE hk) (ZP hk) h
  ·rename_i hw;rw [if_neg hw] at h;exact ⟨h.1,h.2,put_defers _ _ _⟩
theorem Uk {F:Fence} {n:Nat} {o:Oper} {K K':Act→World→Prop} {Q Q':Exit→Act→World→Prop} (hK:∀ a w,K a w→K' a w) (hQ:∀ e a w,e≠.normal→Q e a w→Q' e a w) (h:o.wpIn F n P A w K Q):o.wpIn F n P A w K' Q':=by
 unfold Oper.wpIn at *
 refine ⟨h.1,?_⟩
 have h2:=h.2
 generalize (o.semAt F.round A.eval).run P w=r at h2
 cases r with
 |halt x w =>
  cases x<;>simp only [Oper.uponIn] at h2 ⊢
  exact hQ _ _ _ (by simp) h2
 |ok x w =>
  cases x<;>simp only [Oper.uponIn] at h2 ⊢
  case value v=>exact hK _ _ h2
  case skip=>exact hK _ _ h2
  case defer d=>exact hK _ _ h2
  case enter f args =>
   refine ⟨h2.1,CallsIn.mono h2.2 fun e w' he=>?_⟩
   cases e with
   |returned v=>exact hK _ _ he
   |panicked c=>exact hQ _ _ _ (by simp) he
   |outgrown=>obtain ⟨a₀,w₀,hq⟩:=he;exact ⟨a₀,w₀,hQ _ _ _ (by simp) hq⟩
  case row r args=>exact ⟨h2.1,RowsIn.mono h2.2 fun v w' he=>hK _ _ he⟩
  case round l f t a b =>
   refine ⟨h2.1,RoundIn.mono h2.2 fun e w' he=>?_⟩
   cases e with
   |returned v=>exact hK _ _ he
   |panicked c=>exact hQ _ _ _ (by simp) he
   |outgrown=>obtain ⟨a₀,w₀,hq⟩:=he;exact ⟨a₀,w₀,hQ _ _ _ (by simp) hq⟩
theorem Qq {F:Fence} {n:Nat} {ops:Array Oper} {Q:Exit→Act→World→Prop} {D:List Deferred} (hok:xP P ops=true):∀ (l:List Nat) (A:Act) (w:World),A.defers=D→wpOpsIn F n P ops Q l A w→wpOpsIn F n P ops (fun e a' w'=>Q e a' w'∧(e=.normal→a'.defers=D)) l A w:=by
 intro l
 induction l with
 |nil=>intro A w hd h;exact ⟨h,fun _=>hd⟩
 |cons i l ih =>
  intro A w hd h
  simp only [wpOpsIn] at h ⊢
  cases ho:ops[i]? with
  |none=>rw [ho] at h;exact ih _ _ hd h
  |some o =>
   rw [ho] at h
   have hk:=Nr hok ho
   dsimp only at h ⊢
   split
   ·rename_i hw
    rw [if_pos hw] at h
    exact Uk (fun a v hq=>ih a v (hq.2.trans hd) hq.1) (fun e a v he hq=>⟨hq,fun h=>absurd h he⟩) (Ns (ZE hk) (ZP hk) h)
   ·rename_i hw
    rw [if_neg hw] at h
    exact ⟨h.1,ih _ _ ((put_defers _ _ _).trans hd) h.2⟩
theorem PZ {ih:Ih} (h0:La P Hn ih) {f id:Nat} {ops:Array Oper} {fr:List V} {lo:Lo} {σ:H} {o:Out} {D:List Deferred} {Q:Exit→Act→World→Prop} (ho:o=ih (.ops (ops.toList.map (gK P Hn f ops))) fr lo σ) (hn:o=.norm fr' lo' σ') (hok:xP P ops=true) (hD:A.defers=D) (hsc:Sc P (aQ P Hn) B0 g β σ lo fr A w)
  (hk:∀ g' β' A' w',Sc P (aQ P Hn) B0 g' β' σ' lo' fr' A' w'→Stp g β σ w g' β' σ' w'→A'.defers=D→Q .normal A' w'):(Code.region id ops false).wpIn (Fw none) 0 P Q A w:=by
 have h1:=h0.ops (ops.toList.map (gK P Hn f ops)) fr lo σ f ops 0 none B0 g β A w (by simp) (by simp) hsc (by rw [←ho,hn];simp)
 rw [←ho,hn] at h1
 have h2:=Qq hok _ _ _ hD h1
 refine wpIn_mono (wpIn_region (by simpa [List.range_eq_range'] using h2)) fun e a v hp=>?_
 obtain ⟨⟨wX,lo1,σ1,hout,g1,β1,hs1,hst⟩,hd⟩:=hp
 rcases hout with ⟨ho,rfl⟩|⟨j,ho,_⟩
 ·cases ho;exact hk _ _ _ _ hs1 hst (hd rfl)
 ·cases ho
theorem uV {ih:Ih} (h0:La P Hn ih) {f:Nat} {c:Code} {fr:List V} {lo:Lo} {σ:H} {o:Out} {Q:Exit→Act→World→Prop} (ho:o=ih (.code (aQ P Hn f c)) fr lo σ) (hn:o=.norm fr' lo' σ') (hsc:Sc P (aQ P Hn) B0 g β σ lo fr A w)
  (hk:∀ g' β' A' w',Sc P (aQ P Hn) B0 g' β' σ' lo' fr' A' w'→Stp g β σ w g' β' σ' w'→Q .normal A' w'):c.wpIn (Fw none) 0 P Q A w:=by
 have h1:=h0.code (aQ P Hn f c) fr lo σ f c none B0 g β A w rfl (by simp) hsc (by rw [←ho,hn];simp)
 rw [←ho,hn] at h1
 refine wpIn_mono h1 fun e a v hp=>?_
 obtain ⟨wX,lo1,σ1,hout,g1,β1,hs1,hst⟩:=hp
 rcases hout with ⟨ho,rfl⟩|⟨j,ho,_⟩
 ·cases ho;exact hk _ _ _ _ hs1 hst
 ·cases ho
end
section
variable {P:Program} {Hn H2:Hints} {comp:FuncId→Code→aH} {g g' g'':G} {σ σ' oJ:H} {w w' w'':World} {β β' β'':Nat→Option Nat} {lo lo':Lo} {fr fr' F F':List V} {A A':Act} {B0:Nat} {ro:Option Nat}
variable {ops:Array Oper} {ins:Nat→Ins} {cls ms:Nat→Nat} {f:Nat} {listed:Array Bool} {win born todo:List Nat} {Gr:List V} {pb:Nat→Nat} {g0:G} {β0:Nat→Option Nat} {σ0:H} {w0:World}
variable {ih:Ih} {out:Out} {rest:List iU} {lD b0 jZ:List Nat} {eff:Option Nat} {e:Nat}
def Pg (r:List iU):Bool:=match r with
 |[c]=>vH c.chk&&vH c.pre&&vH c.lD&&QS c.eff none
 |_=>false
def Ag (e:Nat):List iU→Bool
 |[]=>true
 |s::r=>(!(QS s.eff (some e))||Pg r)&&Ag e r
def LaI (e:Nat) (eff:Option Nat) (rest:List iU):Prop:=(eff=some e→Pg rest=true)∧Ag e rest=true
theorem ab1 {r:List iU} (h:Pg r=true):r=[⟨[],[],[],none⟩]:=by
 unfold Pg at h
 split at h
 ·rename_i c
  simp only [au] at h
  obtain ⟨⟨⟨h1,h2⟩,h3⟩,h4⟩:=h
  obtain ⟨c1,c2,c3,c4⟩:=c
  dsimp only at h1 h2 h3 h4
  rw [nJ h1,nJ h2,nJ h3,Oz h4]
 ·cases h
theorem LaI.next {s:iU} (h:LaI e eff (s::rest)):LaI e s.eff rest:=by
 have h2:=h.2
 simp only [Ag,au,gu,Bool.not_eq_true'] at h2
 refine ⟨fun he=>?_,h2.2⟩
 rcases h2.1 with h3|h3
 ·rw [he] at h3
  simp [QS] at h3
 ·exact h3
structure LaF (P:Program) (ops:Array Oper) (ins:Nat→Ins) (cls ms:Nat→Nat) (e:Nat):Prop where
 lt:e<ops.size
 c:cls e=2
 all:∀ i,i<ops.size→i≠e→(ms e).testBit i=true
 no3:∀ i,cls i≠3
 mask:∀ o j,ops[e]?=some o→(ms e).testBit j=true→∃ d∈o.after,Region.binds .any d=true∧(d.on=j∨(ms d.on).testBit j=true)
 ins:ins e=.op none (.mv (.const (.bool true)))
theorem amK {Q:Exit→Act→World→Prop} {fuel:Nat} (hl:listed.size=ops.size) (hall:∀ i,i<ops.size→done listed i) (hq:Q .normal A w):wpAnyIn (Fw ro) 0 P .any ops Q fuel listed A w:=by
 have hnil:Region.ready .any ops listed=[]:=by
  refine List.eq_nil_iff_forall_not_mem.2 fun j hj=>?_
  obtain ⟨h0,o,ho,_⟩:=mem_ready.1 hj
  have:=hall j (fG.1 ho).1
  unfold done at this
  rw [h0] at this
  cases this
 cases fuel with
 |zero=>exact ⟨hnil,hq⟩
 |succ n=>exact ⟨fun _=>hq,fun j hj=>by rw [hnil] at hj;cases hj⟩
theorem ace {Q:Exit→Act→World→Prop} {D:List Deferred} (hok:xP P ops=true) (hout:out≠.fail) (hm:Gs P Hn H2 ops ro ih) (hs:Stat P H2 f ops ins cls ms (fun j=>j=e)) (hf:LaF P ops ins cls ms e)
  (hlast:∀ (g:G) (β:Nat→Option Nat) (lo:Lo) (σ:H) (Gr:List V) (A:Act) (w:World) (K:Act→World→Prop),out=.norm Gr lo σ→Sc P (aQ P Hn) B0 g β σ lo Gr A w→Stp g0 β0 σ0 w0 g β σ w→A.defers=D→(∀ A' w',Q .normal A' w'→K A' w')→wpOpIn (Fw ro) 0 P ops Q e K A w) :
  ∀ (fuel:Nat) {rest:List iU} {win lD:List Nat} {eff:Option Nat} {b0 jZ:List Nat} {lo:Lo} {σ:H} {Gr:List V} {listed:Array Bool} {A:Act} {w:World} {g:G} {β:Nat→Option Nat} {F:List V} {pb:Nat→Nat},
  (og ops listed).length≤fuel→¬done listed e→Mid P Hn ops ins cls ms B0 g0 β0 σ0 w0 ih out rest win lD eff b0 jZ lo σ Gr listed A w g β F pb→LaI e eff rest→A.defers=D →
  wpAnyIn (Fw ro) 0 P .any ops Q fuel listed A w:=by
 intro fuel
 induction fuel with
 |zero =>
  intro rest win lD eff b0 jZ lo σ Gr listed A w g β F pb hle hne hi hla hD
  have:e∈og ops listed:=fK.2 ⟨List.mem_range.2 hf.lt,by simpa using hne⟩
  have:=List.length_pos_of_mem this
  omega
 |succ fuel ihf =>
  intro rest win lD eff b0 jZ lo σ Gr listed A w g β F pb hle hne hi hla hD
  refine ⟨fun hnil=>absurd (ready_nil hi.inv.core.size hs.ayw hnil e hf.lt) hne,fun j hj=>?_⟩
  have hw:j=e→∀ i,(ms j).testBit i=true→i<ops.size∧done listed i:=by
   rintro rfl i hb
   obtain ⟨h0,o,ho,hall⟩:=mem_ready.1 hj
   obtain ⟨d,hd,hbd,hcase⟩:=hf.mask o i ho hb
   have hdd:=hall d hd hbd
   have hlt:d.on<listed.size:=by
    by_cases hq:d.on<listed.size
    ·exact hq
    ·simp [Array.getD,hq] at hdd
   have hdone:done listed d.on:=by
    unfold done
    simp only [Array.getD,hlt,dif_pos] at hdd ⊢
    exact hdd
   rcases hcase with rfl|h
   ·exact ⟨by have:=hi.inv.core.size;omega,hdone⟩
   ·exact hi.inv.core.closed d.on (by have:=hi.inv.core.size;omega) hdone i h
  obtain ⟨h1,h2,h3⟩:=jP hs hw hi.inv.core.size hi.inv.core.closed hj
  by_cases hje:j=e
  ·subst hje
   have hall:∀ i,i<ops.size→i≠j→done listed i:=fun i hi1 hi2=>(h3 i (hf.all i hi1 hi2)).2
   have hjt:=hi.inv.Hq j hf.lt hf.c hne
   have heff:eff=some j:=by
    cases he:eff with
    |none=>have:=hi.cur.last he;rw [he,this] at hjt;simp [jE] at hjt
    |some e' =>
     by_cases hq:e'=j
     ·rw [hq]
     ·have:=hi.inv.Ba e' (by simp [he])
      exact absurd (hall e' this.1 hq) this.2.2
   have ayb:lD=[]:=by
    cases lD with
    |nil=>rfl
    |cons a l=>exact absurd (hi.cur.adI a (by simp)).1 (hf.no3 a)
   have hrest:=ab1 (hla.1 heff)
   subst heff ayb hrest
   have hrun:bW ih [ins j] Gr lo σ=out:=hi.run
   rw [hf.ins] at hrun
   have RG:out=.norm Gr lo σ:=hrun.symm
   have hF:F=Gr:=Jf hi.inv.core.len fun t=>by
    rcases hi.inv.core.agr t with h|⟨k,hk,hck,hnd,_⟩|⟨a,ha,hca,_,_⟩
    ·exact h
    ·exact absurd (hall k hk (by rintro rfl;have:=hf.c;omega)) hnd
    ·exact absurd hca (hf.no3 a)
   subst hF
   refine hlast g β lo σ F A w _ RG hi.inv.core.sc hi.inv.core.stp hD fun A' w' hq=>?_
   refine amK (by simp [hi.inv.core.size]) (fun i hi1=>?_) hq
   by_cases hij:i=j
   ·exact dN.2 (.inr hij.symm)
   ·exact dN.2 (.inl (hall i hi1 hij))
  ·have hlt:(og ops (listed.setIfInBounds j true)).length≤fuel:=by have:=DR h1 h2;omega
   have hne':¬done (listed.setIfInBounds j true) e:=fun h=>by
    rcases dN.1 h with h|h
    ·exact hne h
    ·exact hje h
   have hcov:∀ i,i<ops.size→cls i<2→¬done (listed.setIfInBounds j true) i→i∈win∨i∈pW rest:=fun i k1 k2 k3=>hi.cov i k1 k2 fun h=>k3 (dN.2 (.inl h))
   have fin:∀ {K:Act→World→Prop},wpOpIn (Fw ro) 0 P ops Q j (fun A' w'=>A'.defers=D→K A' w') A w→wpOpIn (Fw ro) 0 P ops Q j K A w:=fun h=>wpOpIn_mono (fun a v hq=>hq.1 (hq.2.trans hD)) (Vl hok h)
   refine fin ?_
   rcases hs.cl3 j with hc|hc|hc
   ·exact YQ hm hs hi.inv hje hj hc fun A' w' g' β' F' hi' hD'=>ihf hlt hne' ⟨hi',hcov,hi.cur,hi.ok,hi.run⟩ hla hD'
   ·refine YP hout hm hs hi (fun h=>absurd h hje) (fun o h=>hs.MN j o hje h) hj hc fun A' w' g' β' F' s rest' YV b0' Jd lo' σ' zn hrs hi' hD'=>ihf hlt hne' hi' ?_ hD'
    subst hrs
    exact hla.next
   ·exact absurd hc (hf.no3 j)
def insL (P:Program) (Hn:Hints) (f:Nat) (ops:Array Oper) (e:Nat):Nat→Ins:=fun i=>bif Nat.beq i e then .op none (.mv (.const (.bool true))) else insOf P (gZ Hn) f ops i
theorem V6 {D:List Deferred} (Jr:P.follows .mixedOrders=true) (hidle:∀ q∈Hn.idle,wZ P q) {ih:Ih} (h0:La P Hn ih) {f id:Nat} {ops:Array Oper} {l:List iU} {e:Nat} {fr:List V} {lo:Lo} {σ:H} {w:World} {g:G} {β:Nat→Option Nat} {A:Act} {B0:Nat} {ro:Option Nat} {Q:Exit→Act→World→Prop}
  (hd:zU (insL P Hn f ops e) (jM P (gZ Hn) f ops) (yN ops) ops.size l=true) (hlow:nX ops.toList 0=true) (hl:l≠[]) (hla:Ag e l=true)
  (hlt:e<ops.size) (hc:jM P (gZ Hn) f ops e=2) (hall:∀ i,i<ops.size→i≠e→(yN ops e).testBit i=true) (aIL:∀ i,i<ops.size→jM P (gZ Hn) f ops i≠3)
  (hro:ro.isSome=true→yP ops=true) (hsc:Sc P (aQ P Hn) B0 g β σ lo fr A w) (aIQ:xP P ops=true) (hD:A.defers=D)
  (hout:bW ih (flatten (insL P Hn f ops e) l) fr lo σ≠.fail)
  (hlast:∀ (g':G) (β':Nat→Option Nat) (lo':Lo) (σ':H) (Gr:List V) (A':Act) (w':World) (K:Act→World→Prop),bW ih (flatten (insL P Hn f ops e) l) fr lo σ=.norm Gr lo' σ'→Sc P (aQ P Hn) B0 g' β' σ' lo' Gr A' w'→Stp g β σ w g' β' σ' w'→A'.defers=D→(∀ A'' w'',Q .normal A'' w''→K A'' w'')→wpOpIn (Fw ro) 0 P ops Q e K A' w') :
  (Code.region id ops true).wpIn (Fw ro) 0 P Q A w:=by
 have hf:=yD hd
 have hne:∀ i,i≠e→insL P Hn f ops e i=insOf P (gZ Hn) f ops i:=fun i hi=>by unfold insL;rw [DZ hi];rfl
 have hee:insL P Hn f ops e e=.op none (.mv (.const (.bool true))):=by unfold insL;rw [VR];rfl
 have hget:∀ i,i<ops.size→ops[i]?=some ops[i]!:=fun i hi=>by simp [hi]
 have aeR:∀ i,jM P (gZ Hn) f ops i≠3:=fun i h=>aIL i (uU (by rw [h];decide)) h
 have hs:Stat P (gZ Hn) f ops (insL P Hn f ops e) (jM P (gZ Hn) f ops) (yN ops) (fun j=>j=e):=by
  refine ⟨fun i o hi h=>by rw [hne i hi];exact Eh h,fun i hi hci=>?_,fun i hi hci=>absurd hci (aeR i),fun i=>?_,fun i o j _ ho hb=>?_,fun i j d hi hj hci hcj h1 h2=>?_,fun e' i d he hi hce hci h1 h2=>?_,hf.reads,hf.loc,fun i hci=>uU hci,fun i o ho d hd hb=>?_⟩
  ·have hie:i≠e:=by rintro rfl;omega
   rw [hne i hie]
   rw [su (hget i hi)] at hci ⊢
   exact Dn hci
  ·by_cases hi:i<ops.size
   ·have:=FP (o:=ops[i]!) (i:=insOf P (gZ Hn) f ops i)
    have:=aeR i
    rw [su (hget i hi)] at this ⊢
    omega
   ·by_cases hci:jM P (gZ Hn) f ops i=2
    ·omega
    ·exact absurd (uU hci) hi
  ·obtain ⟨d,hd,hbe,h⟩:=BF (ops:=ops.toList) (by rw [Array.getElem?_toList];exact ho) hb
   exact ⟨d,Array.mem_toList_iff.1 hd,hbe,h⟩
  ·refine D7 hf.nodup i ?_ j ?_ h1 h2 (List.Pairwise.filter _ List.nodup_range)
   ·exact fK.2 ⟨List.mem_range.2 hi,F6 hci⟩
   ·exact fK.2 ⟨List.mem_range.2 hj,F6 hcj⟩
  ·exact hf.axS d (jl.2 ⟨e',fK.2 ⟨List.mem_range.2 he,by simpa using hce⟩,h1⟩) (jl.2 ⟨i,fK.2 ⟨List.mem_range.2 hi,F6 hci⟩,h2⟩)
  ·have:=uw hlow i o (by rw [Array.getElem?_toList];exact ho) d hd hb
   omega
 have aII:LaF P ops (insL P Hn f ops e) (jM P (gZ Hn) f ops) (yN ops) e:=⟨hlt,hc,hall,aeR,fun o j ho hb=>by
  obtain ⟨d,hd,hbe,h⟩:=BF (ops:=ops.toList) (by rw [Array.getElem?_toList];exact ho) hb
  exact ⟨d,Array.mem_toList_iff.1 hd,hbe,h⟩,hee⟩
 refine wpIn_region_any Jr ?_
 cases l with
 |nil=>exact absurd rfl hl
 |cons s rest =>
 obtain ⟨hso,hok⟩:=jL hf.stages
 have hnd:∀ i,i<ops.size→¬done (Array.replicate ops.size false) i:=fun i hi h=>by
  unfold done at h
  simp [Array.getD,hi] at h
 have hnd':∀ i,jM P (gZ Hn) f ops i≠2→¬done (Array.replicate ops.size false) i:=fun i hc=>hnd i (hs.Jc i hc)
 have hcore:Core P Hn ops (insL P Hn f ops e) (jM P (gZ Hn) f ops) (yN ops) B0 g β σ w [] lo σ fr (Array.replicate ops.size false) A { w with drawn:=w.drawn+1 } g β fr (fun _=>0):=by
  refine ⟨by simp,fun j hj hd=>absurd hd (hnd j hj),hsc.drawn,.drawn,rfl,fun t=>.inl rfl,fun a ha=>by simp at ha,fun a d z ha _ hd=>absurd hd (hnd a ha),fun a a' ha _ _ _ hd=>absurd hd (hnd a ha)⟩
 have hout2:∀ e∈jE (s::rest),e<ops.size:=fun e he=>by
  simp only [jE,List.flatMap_cons,List.mem_append] at he
  rcases he with he|he
  ·exact (hso.cur.Ci e (by simpa [Option.mem_toList] using he)).2.1
  ·exact (mQ rest hok e he).2.1
 obtain ⟨zn,k1,k2,k3⟩:=enter (n:=ops.size) (aL:=II _ ops.size) hout hs hso hok hcore rfl (fun i hi=>by simp [qL] at hi) (fun i hi=>by simp [qL] at hi) (fun i hi=>hnd' i (by have:=(hso.pre i hi).1;omega))
  (fun i h1 h2 _=>.inr (by rcases hf.cover i h1 with h|h|h<;>first|exact h.2|omega)) (fun e he=>hnd e (hout2 e he)) (fun e h1 h2 _=>by rcases hf.cover e h1 with h|h|h<;>first|exact h.2|omega) rfl
 have hli:LaI e s.eff rest:=LaI.next (eff:=none) ⟨fun h=>(by cases h),hla⟩
 refine ace (H2:=gZ Hn) (f:=f) (D:=D) aIQ hout ⟨h0.call,h0.app,hidle,h0.loc,hro⟩ hs aII hlast ops.size ?_ (hnd e hlt) ⟨k1,k3,hso.cur,hok,k2⟩ hli hD
 unfold og
 exact Nat.le_trans (List.length_filter_le _ _) (by simp)
end
end Go.Vx
namespace Go.Vx.Tab
section
open Go Go.RowKit Go.Proofs
noncomputable def u52:List V:=pad 52 []
noncomputable def F7:List V:=jW (jW (jW u52 8 v8) 10 (.dF 0 0)) 3 (.dF 1 0)
noncomputable def σ7:H:=⟨2,.leaf⟩
noncomputable def aaB (c:Code):Cmd:=.ops ((opsOf c).toList.map (gK Tryz.prog qQ 6 (opsOf c)))
theorem aAn:c8=.region 8 (opsOf c8) false:=by kernel_rfl
theorem ark:c9=.region 9 (opsOf c9) false:=by kernel_rfl
theorem axo:c10=.region 10 (opsOf c10) false:=by kernel_rfl
theorem axq:c12=.region 12 (opsOf c12) false:=by kernel_rfl
theorem kk8:xP Tryz.prog (opsOf c8)=true:=by decide +kernel
theorem kk9:xP Tryz.prog (opsOf c9)=true:=by decide +kernel
theorem aKZ:xP Tryz.prog (opsOf c10)=true:=by decide +kernel
theorem aK1:xP Tryz.prog (opsOf c11)=true:=by decide +kernel
theorem aK2:xP Tryz.prog (opsOf c12)=true:=by decide +kernel
noncomputable def o8:Out:=WY (aaB c8) F7 [] σ7
theorem aLr:Ei o8=true:=by decide +kernel
noncomputable def o9:Out:=WY (aaB c9) (oZ o8) (zJ o8) (vF o8)
theorem aLt:Ei o9=true:=by decide +kernel
theorem aLs:aO (oZ o9) 36=.bool true:=by kernel_rfl
noncomputable def o10:Out:=WY (aaB c10) (oZ o9) (zJ o9) (vF o9)
theorem aBJ:Ei o10=true:=by decide +kernel
noncomputable def y9:Array Oper:=opsOf c11
theorem axp:c11=.region 11 y9 true:=by kernel_rfl
noncomputable abbrev ayk:Nat→Ins:=insL Tryz.prog qQ 6 y9 9
noncomputable abbrev aaK:Nat→Nat:=jM Tryz.prog (gZ qQ) 6 y9
noncomputable def acC:List iU:=stages aaK (yN y9) y9.size ((List.range y9.size).filter fun i=>aaK i==2)
theorem aLO:zU ayk aaK (yN y9) y9.size acC=true:=by decide +kernel
theorem aLP:nX y9.toList 0=true:=by decide +kernel
theorem aLQ:acC.isEmpty=false:=by decide +kernel
theorem aLR:Ag 9 acC=true:=by decide +kernel
theorem ay4:y9.size=10:=by decide +kernel
theorem aLS:aaK 9=2:=by decide +kernel
theorem aLT:((List.range 9).all fun i=>(yN y9 9).testBit i)=true:=by decide +kernel
theorem aLU:((List.range 10).all fun i=>!(Nat.beq (aaK i) 3))=true:=by decide +kernel
noncomputable def o11:Out:=bW WY (flatten ayk acC) (oZ o10) (zJ o10) (vF o10)
theorem aBL:Ei o11=true:=by decide +kernel
noncomputable def strOf:V→List Nat|.str s=>s|_=>[]
theorem ayO:aO (oZ o11) 47=.str [109,97,105,110,58,32,73,79,32,85,110,105,116,10]:=by kernel_rfl
theorem ayL:aO (oZ o11) 10=.dF 0 0:=by kernel_rfl
theorem aBK:aO (oZ o11) 3=.dF 1 0:=by kernel_rfl
theorem ayM:aO (oZ o11) 34=.int .i64 1:=by kernel_rfl
theorem ayN:aO (oZ o11) 35=.int .i64 0:=by kernel_rfl
theorem Nh:(oZ o11).length=52:=by decide +kernel
noncomputable def F8:List V:=jW (jW (jW (jW u52 34 (.int .i64 1)) 35 (.int .i64 0)) 10 (.dF 0 0)) 3 (.dF 1 0)
noncomputable def o12:Out:=WY (aaB c12) F8 [] σ7
theorem aBN:Ei o12=true:=by decide +kernel
noncomputable def o13:Out:=WY (aaB c9) (oZ o12) (zJ o12) (vF o12)
theorem aBR:Ei o13=true:=by decide +kernel
theorem aBP:aO (oZ o13) 36=.bool false:=by kernel_rfl
theorem ayQ:aO (oZ o13) 10=.dF 0 0:=by kernel_rfl
theorem aBO:aO (oZ o13) 3=.dF 1 0:=by kernel_rfl
theorem aBQ:(oZ o13).length=52:=by decide +kernel
noncomputable def G5:Array Oper:=opsOf c13
theorem axr:c13=.region 13 G5 false:=by kernel_rfl
theorem p13:G5.size=5:=by decide +kernel
noncomputable def F14:List V:=jW (jW u52 50 (.str [109,97,105,110,58,32,73,79,32,85,110,105,116,10])) 3 (.bf 3 0)
noncomputable def aoy:Lo:=[(3,[.int .i64 0,.int .i64 0])]
noncomputable def Vu:Out:=WY (.ops ((G5.toList.drop 1).map (gK Tryz.prog qQ 6 G5))) F14 aoy σ7
theorem arJ:Ei Vu=true:=by decide +kernel
noncomputable def aCV:List (Nat×Bool×Bool×Nat):=[(2,false,false,0),(3,true,true,2),(4,false,false,0)]
theorem apf:Tryz.f6.results.toList.mapM (aaC Tryz.prog)=some aCV:=by kernel_rfl
theorem aBS:resV (oZ Vu) (zJ Vu) (vF Vu) aCV=some [S [109,97,105,110,58,32,73,79,32,85,110,105,116,10],A [j 0,j 0],j 0]:=by kernel_rfl
end
end Go.Vx.Tab
namespace Go.Vx
section
open Go Go.RowKit Go.Proofs
variable {P:Program} {Hn H2:Hints} {comp:FuncId→Code→aH} {g g' g'' g0:G} {σ σ' oJ:H} {w w' w'' w0:World} {β β' β'':Nat→Option Nat} {lo lo':Lo} {fr fr' F F':List V} {A A':Act} {B0 b b3:Nat} {ro:Option Nat} {T:Array Value}
def rr (b b3:Nat):Nat→Option (Nat×Nat):=fun i=>if i=0 then some (b,2) else if i=1 then some (b3,2) else none
def rg (b b3:Nat) (g:G):G:={ g with ρ:=rr b b3 }
theorem JC (i n:Nat):(⟨n,.leaf⟩:H).get i=none:=rfl
theorem xH {n x:Nat}:¬Live g ⟨n,.leaf⟩ x:=by rintro ⟨i,m,h,_⟩;rw [JC] at h;cases h
theorem Rw.base {γ:G} (hf:∀ x o v,γ.φ x o=some v→w.cell? ⟨x,o,none⟩=some v) (hb:b<w.heap.size) (hb3:b3<w.heap.size):Rw P comp (rg b b3 γ) ⟨2,.leaf⟩ w:=by
 refine ⟨hf,fun i ob h=>?_,fun i j b n m h=>?_,fun i hi=>⟨?_,rfl⟩,fun i c n h=>?_⟩
 ·rw [JC] at h;cases h
 ·rw [JC] at h;cases h
 ·have hi:2≤i:=hi
  show rr b b3 i=none
  simp only [rr]
  rw [if_neg (by omega),if_neg (by omega)]
 ·have h:rr b b3 i=some (c,n):=h
  simp only [rr] at h
  split at h
  ·cases h;exact hb
  ·split at h
   ·cases h;exact hb3
   ·cases h
theorem Rb.afQ:Rb g σ (fun _=>none) lo w:=⟨fun t b e=>(by cases e),fun t b e=>(by cases e),fun t u b e=>(by cases e)⟩
theorem wL.YS (n:Nat) (h:T.size=n):wL g β (pad n []) T:=by
 refine ⟨by rw [Dx];simp [h],fun t v x hv _=>?_⟩
 rcases ZU n [] t v hv with hv|⟨_,rfl⟩
 ·simp at hv
 ·exact .dP (.undef _)
theorem wL.PU (h:wL g β F T) (t:Nat) {v:V} (hv:∀ x,T[t]?=some x→Rs g β v x):wL g β (jW F t v) T:=by
 refine ⟨by rw [iw];exact h.size,fun u y x hy hx=>?_⟩
 have hlt:u<F.length:=by have:=(iW.1 hy).1;rwa [iw] at this
 have e:Vx.aO (jW F t v) u=y:=by rw [pG,hy];rfl
 rw [dR] at e
 split at e
 ·rename_i hh
  obtain ⟨rfl,_⟩:=hh
  subst e
  exact hv x hx
 ·refine h.slots u y x ?_ hx
  rw [pG] at e
  rw [fM hlt] at e ⊢
  simpa using e
theorem wL.at (h:wL g β F T) {t:Nat} {x:Value} (hx:T[t]?=some x):Rs g β (Vx.aO F t) x:=by
 have hlt:t<F.length:=by rw [h.size];exact (fG.1 hx).1
 have:=h.slots t (Vx.aO F t) x (by rw [pG,fM hlt];rfl) hx
 exact this
theorem cell_lt {a:Nat} {o:Nat} {v:Value} (h:w.cell? ⟨a,o,none⟩=some v):a<w.heap.size:=by
 rcases Nat.lt_or_ge a w.heap.size with h'|h'
 ·exact h'
 ·simp [World.cell?,Array.getElem?_eq_none h'] at h
theorem aaE {a:Nat} {o:Nat} (h:w'.heap[a]?=w.heap[a]?):w'.cell? ⟨a,o,none⟩=w.cell? ⟨a,o,none⟩:=by
 simp only [World.cell?,h]
theorem Yj (hw:Rw P comp g σ w) {k o:Nat} (hk:w.heap.size≤k):g.φ k o=none:=hw.nC hk o
theorem agA (hw0:Rw P comp g0 emp w0) (t:Stp g0 (fun _=>none) emp w0 g β σ w) (hs:Sc P comp B0 g β σ lo fr A w) (hbl:Below b w w') (hb:w0.heap.size≤b) (hb':b<w'.heap.size) (hb3:b3<b) :
  Rw P comp (rg b b3 g0) ⟨2,.leaf⟩ w'∧Stp g0 (fun _=>none) emp w0 (rg b b3 g0) (fun _=>none) ⟨2,.leaf⟩ w':=by
 refine ⟨Rw.base (fun x o v h=>?_) hb' (by omega),⟨⟨fun i x h=>?_,fun _ _ _ h=>h,fun _=>.rfl⟩,⟨hbl.os.trans t.nI.os,hbl.tape.trans t.nI.tape,hbl.output.trans t.nI.output,Nat.le_trans t.nI.size hbl.size,fun k hk hl hx hp=>?_⟩,fun x h _=>absurd h xH,fun t b e=>(by cases e),fun x _ hp _=>hp⟩⟩
 ·have h1:=cell_lt (hw0.frozen x o v h)
  rw [aaE (hbl.block x (by omega))]
  exact hs.s.w.frozen x o v (t.le.φ x o v h)
 ·rw [(hw0.fresh i (Nat.zero_le _)).1] at h;cases h
 ·exact (hbl.block k (by omega)).trans (t.nI.block k hk hl hx hp)
theorem Df.low (hbl:Below b w w'):∀ {D:List Deferred},(∀ d∈D,∀ r,d.target=.collected r→r<b)→Df P B0 w D→Df P B0 w' D
 |[],_,_=>trivial
 |d::ds,hr,h=>by
  refine ⟨?_,Df.low (D:=ds) hbl (fun d hd=>hr d (eX _ hd)) h.2⟩
  rcases h.1 with ⟨r,h0,h1,h2,h3⟩|h1
  ·exact .inl ⟨r,h0,h1,(hbl.block r (hr d fF r h1)).trans h2,h3⟩
  ·exact .inr h1
theorem Df.ltB:∀ {D:List Deferred},Df P B0 w D→∀ d∈D,∀ r,d.target=.collected r→r<w.heap.size
 |[],_,d,hd,_,_=>by cases hd
 |d'::ds,h,d,hd,r,hr=>by
  rcases List.mem_cons.1 hd with rfl|hd
  ·rcases h.1 with ⟨r',h0,h1,h2,h3⟩|⟨f,cap,h1,_⟩
   ·rw [h1] at hr;cases hr;exact (fG.1 h2).1
   ·rw [h1] at hr;cases hr
  ·exact Df.ltB h.2 d hd r hr
end
end Go.Vx
section
open Go Go.RowKit Go.Proofs
namespace Go.Vx
variable {P:Program} {Hn H2:Hints} {comp:FuncId→Code→aH} {g g' g'' g0:G} {σ σ' oJ:H} {w w' w'' w0:World} {β β' β'':Nat→Option Nat} {lo lo':Lo} {fr fr' F F':List V} {A A':Act} {B0 b b3:Nat} {ro:Option Nat} {T:Array Value}
theorem Oa {ops:Array Oper} {i f:Nat} {o:Oper} {c:Call} {fn:Func} {bd:Code} {Q:Exit→Act→World→Prop} {K:Act→World→Prop} (ho:ops[i]?=some o) (hg:o.guard=none) (hop:o.op=.call c) (hc:c.callee=.value (.func f)) (hfn:P.funcs[f]?=some fn) (hb:fn.body=some bd) (hname:fn.name≠ "runtime.NumGoroutine")
  (hcall:Calls P f (c.args.map A.eval) w fun e w'=>∃ v,e=.returned v∧K (A.put o.dst v) w'):wpOpIn (Fw none) 0 P ops Q i K A w:=by
 unfold wpOpIn
 rw [ho]
 dsimp only
 rw [if_pos (by simp [Region.wanted,hg])]
 refine ⟨fun _ _=>trivial,?_⟩
 have hse:(o.semAt (Fw none).round A.eval)=execOp A.eval o:=Oper.semAt_eq _ _ _ (fun c hc=>by rw [hop] at hc;cases hc)
 rw [hse,MG hop hc,qI hfn hb hname]
 refine ⟨fun hh=>by simp [Fw] at hh,?_⟩
 refine CallsIn.mono ((callsIn_wide (n:=0)).2 hcall) fun e w' he=>?_
 obtain ⟨v,rfl,hk⟩:=he
 exact hk
theorem Vm {F:Fence} {n:Nat} {ops:Array Oper} {Q Q':Exit→Act→World→Prop} (hQ:∀ e a w,Q e a w→Q' e a w):∀ (l:List Nat) (A:Act) (w:World),wpOpsIn F n P ops Q l A w→wpOpsIn F n P ops Q' l A w:=by
 intro l
 induction l with
 |nil=>intro A w h;exact hQ _ _ _ h
 |cons i l ih =>
  intro A w h
  simp only [wpOpsIn] at h ⊢
  cases ho:ops[i]? with
  |none=>rw [ho] at h;exact ih _ _ h
  |some o =>
   rw [ho] at h
   dsimp only at h ⊢
   split
   ·rename_i hw
    rw [if_pos hw] at h
    exact Uk (fun a v hq=>ih a v hq) (fun e a v _ hq=>hQ e a v hq) h
   ·rename_i hw
    rw [if_neg hw] at h
    exact ⟨h.1,ih _ _ h.2⟩
end Go.Vx
namespace Go.Vx.Tab
set_option maxRecDepth 1000000
variable {g g' g'' g0:G} {σ σ' oJ:H} {w w' w'' w0:World} {β β' β'':Nat→Option Nat} {lo lo':Lo} {fr fr' F F':List V} {A A':Act} {b b3:Nat} {T:Array Value} {D:List Deferred} {l:List UInt8}
noncomputable def aCR:Out:=.jump .ret (oZ Vu) (zJ Vu) (vF Vu)
theorem aej:Tryz.prog.funcs[17]?=some Tryz.f17:=Tryz.func17
def Yh:Oper:={ dst:=some 50,op:=.call { callee:=.value (.func 17),args:=#[.tmp 10],argTypes:=#[74] },type:=9,pos:= "run.go:91",after:=#[],guard:=none }
theorem h13:G5[0]?=some Yh:=by kernel_rfl
theorem axn:∃ c,Tryz.f17.body=some c:=⟨_,rfl⟩
theorem ayH:Tryz.f17.name≠ "runtime.NumGoroutine":=by decide
theorem axl:∃ c,Tryz.f15.body=some c:=⟨_,rfl⟩
theorem ayG:Tryz.f15.name≠ "runtime.NumGoroutine":=by decide
def VE (b3:Nat) (w:World):Prop:=∃ (c:Array Value) (e:TypeId),w.heap[b3]?=some (.cells c e (0,0))∧c.size=2∧∀ (j:Nat) (x:V),[V.int .i64 0,V.int .i64 0][j]?=some x→∃ v,c[j]?=some v∧∀ g,Rv g x v
theorem apy (hw0:Rw Tryz.prog (aQ Tryz.prog qQ) g0 emp w0) (t:Stp g0 (fun _=>none) emp w0 g β σ w) (hs:Sc Tryz.prog (aQ Tryz.prog qQ) w0.heap.size g β σ lo (oZ o13) A w) (h3:w0.heap.size≤b3) (h3b:b3<b) (hB:Lib.IsBuilder 74 5 b b (Lib.byteCells l) w) (hl:l.map UInt8.toNat=[109,97,105,110,58,32,73,79,32,85,110,105,116,10]) (hbx:VE b3 w)
  (hD:∀ d∈A.defers,∀ r,d.target=.collected r→r<b) (hb:g.ρ 0=some (b,2)) (hb3:g.ρ 1=some (b3,2)):(Code.seq c13 .ret).wpIn (Fw none) 0 Tryz.prog (jR Tryz.prog (aQ Tryz.prog qQ) w0.heap.size g0 (fun _=>none) emp w0 aCR) A w:=by
 have hbw:b<w.heap.size:=by rcases hB with h|h<;>exact h.lt
 have hsz:A.tmps.size=52:=by rw [←hs.s.f.size];exact aBQ
 have e10:A.eval (.tmp 10)=.pointer (some ⟨b,0,none⟩):=by
  have hx:A.tmps[10]?=some (A.tmps.getD 10 undef):=by simp [Array.getD,hsz]
  have h:=hs.s.f.at hx
  rw [ayQ] at h
  show A.tmps.getD 10 undef=_
  generalize A.tmps.getD 10 undef=y at h
  cases h with
  |dF off h=>rw [hb] at h;cases h;rfl
 have e3:A.tmps[3]?=some (.pointer (some ⟨b3,0,none⟩)):=by
  have hx:A.tmps[3]?=some (A.tmps.getD 3 undef):=by simp [Array.getD,hsz]
  have h:=hs.s.f.at hx
  rw [aBO] at h
  rw [hx]
  generalize A.tmps.getD 3 undef=y at h
  cases h with
  |dF off h=>rw [hb3] at h;cases h;rfl
 refine wpIn_seq ?_
 rw [axr]
 refine wpIn_region ?_
 rw [p13,show List.range 5=0::List.range' 1 4 from rfl,wpOpsIn_cons]
 obtain ⟨bd,hbd⟩:=axn
 refine Oa h13 rfl rfl rfl aej hbd ayH ?_
 have hargs:(#[Operand.tmp 10]:Array Operand).map A.eval=#[.pointer (some ⟨b,0,none⟩)]:=by simp [e10]
 rw [hargs]
 refine Calls.mono (Go.Proofs.YtbbcoelimmpbaaaGreatDoor.bld.string b b l w hB (by rintro rfl;simp at hl)) fun e w' he=>?_
 obtain ⟨rfl,hbl⟩:=he
 refine ⟨_,rfl,?_⟩
 have ayc:b<w'.heap.size:=Nat.lt_of_lt_of_le hbw hbl.size
 obtain ⟨hrw,hst⟩:=agA hw0 t hs hbl (by omega) ayc h3b
 have aeZ:∀ o,g0.φ b3 o=none:=fun o=>hw0.nC h3 o
 have hsc:Sc Tryz.prog (aQ Tryz.prog qQ) w0.heap.size (rg b b3 g0) (fun t=>if t=3 then some b3 else none) ⟨2,.leaf⟩ aoy F14 (A.put Yh.dst (.string ⟨l.toArray⟩)) w':=by
  refine ⟨⟨?_,?_,hrw⟩,?_,Nat.le_trans t.nI.size hbl.size⟩
  ·have hT:(A.put Yh.dst (.string ⟨l.toArray⟩)).tmps=A.tmps.setIfInBounds 50 (.string ⟨l.toArray⟩):=rfl
   rw [hT]
   refine wL.PU (wL.PU (wL.YS 52 (by simp [hsz])) 50 fun x hx=>?_) 3 fun x hx=>?_
   ·have:x=.string ⟨l.toArray⟩:=by simpa [Array.getElem?_setIfInBounds,hsz] using hx.symm
    subst this
    have:=Rv.str (g:=(rg b b3 g0)) ⟨l.toArray⟩
    rw [show ((⟨l.toArray⟩:ByteArray).data.toList.map UInt8.toNat)=l.map UInt8.toNat from rfl,hl] at this
    exact .dP this
   ·have hx':A.tmps[3]?=some x:=by simpa [Array.getElem?_setIfInBounds] using hx
    rw [e3] at hx'
    cases hx'
    exact ⟨b3,by simp,rfl⟩
  ·refine ⟨fun u x e=>?_,fun u x e=>⟨xH,?_⟩,fun u v x e e'=>?_⟩
   ·split at e
    ·rename_i hu
     cases e
     subst hu
     obtain ⟨c,ty,k1,k2,k3⟩:=hbx
     refine ⟨[.int .i64 0,.int .i64 0],c,ty,rfl,(hbl.block b3 h3b).trans k1,by simp [k2],fun j x hx=>?_⟩
     obtain ⟨v,h1,h2⟩:=k3 j x hx
     exact ⟨v,h1,h2 _⟩
    ·cases e
   ·split at e
    ·cases e;exact aeZ
    ·cases e
   ·split at e
    ·split at e'
     ·omega
     ·cases e'
    ·cases e
  ·rw [put_defers];exact Df.low hbl hD hs.d
 have hst':Stp g0 (fun _=>none) emp w0 (rg b b3 g0) (fun t=>if t=3 then some b3 else none) ⟨2,.leaf⟩ w':=by
  refine ⟨hst.le,hst.nI,hst.live,fun u x e hlt=>?_,hst.phi⟩
  split at e
  ·cases e;omega
  ·cases e
 have h14:=H8.ops _ F14 aoy σ7 6 G5 1 none w0.heap.size _ _ _ _ rfl (by simp) hsc (by have:=uy arJ;unfold Vu at this;rw [this];simp)
 rw [p13] at h14
 refine Vm (fun e a v hq=>?_) _ _ _ h14
 obtain ⟨wX,lo1,σ1,hout,g1,β1,hs1,hs2⟩:=hq
 have ho:WY (.ops ((G5.toList.drop 1).map (gK Tryz.prog qQ 6 G5))) F14 aoy σ7=.norm (oZ Vu) (zJ Vu) (vF Vu):=uy arJ
 rw [ho] at hout
 rcases hout with ⟨ho,rfl⟩|⟨j,ho,_⟩
 ·cases ho
  refine wpIn_ret ⟨_,_,_,.inr ⟨.ret,rfl,rfl⟩,g1,β1,hs1,hst'.trans hs2⟩
 ·cases ho
noncomputable def L7:Code:=.seq c9 (.seq (.cond (.tmp 36) .skip (.exit 0)) (.seq (.block 1 (.seq c10 c11)) c12))
noncomputable def Q0 (g0:G) (w0:World):Exit→Act→World→Prop:=jR Tryz.prog (aQ Tryz.prog qQ) w0.heap.size g0 (fun _=>none) emp w0 aCR
noncomputable def Q1 (g0:G) (w0:World):Exit→Act→World→Prop:=Exit.then ((Code.seq c13 .ret).wpIn (Fw none) 0 Tryz.prog (Q0 g0 w0)) (Q0 g0 w0)
noncomputable def Q2y (g0:G) (w0:World):Exit→Act→World→Prop:=Exit.inBlock 0 (Q1 g0 w0)
noncomputable def Q3 (g0:G) (w0:World):Exit→Act→World→Prop:=Exit.then ((Code.loop L7).wpIn (Fw none) 0 Tryz.prog (Q2y g0 w0)) (Q2y g0 w0)
theorem aBI:∀ a w,¬Q2y g0 w0 .outgrown a w:=fun a w h=>arG a w h
theorem reg {ih:Ih} (h0:La Tryz.prog qQ ih) {c:Code} {id:Nat} {fr:List V} {lo:Lo} {σ:H} {o:Out} {B0:Nat} {Q:Exit→Act→World→Prop} (hc:c=.region id (opsOf c) false) (ho:o=ih (aaB c) fr lo σ) (hn:Ei o=true) (hok:xP Tryz.prog (opsOf c)=true) (hsc:Sc Tryz.prog (aQ Tryz.prog qQ) B0 g β σ lo fr A w)
  (hk:∀ g' β' A' w',Sc Tryz.prog (aQ Tryz.prog qQ) B0 g' β' (vF o) (zJ o) (oZ o) A' w'→Stp g β σ w g' β' (vF o) w'→A'.defers=A.defers→Q .normal A' w'):c.wpIn (Fw none) 0 Tryz.prog Q A w:=by
 rw [hc]
 exact PZ h0 ho (uy hn) hok rfl hsc hk
theorem ZF (hw0:Rw Tryz.prog (aQ Tryz.prog qQ) g0 emp w0) {β':Nat→Option Nat} (t:Stp (rg b b3 g0) (fun _=>none) ⟨2,.leaf⟩ w g' β' σ' w') {k:Nat} (h:w0.heap.size≤k) (hk:k<w.heap.size):w'.heap[k]?=w.heap[k]? :=
 t.nI.block k hk xH (fun ⟨_,h⟩=>(by cases h)) (.inl fun o=>hw0.nC h o)
theorem VE.same (h:VE b3 w) (e:w'.heap[b3]?=w.heap[b3]?):VE b3 w':=let ⟨c,ty,h1,h2⟩:=h;⟨c,ty,e.trans h1,h2⟩
theorem Ol {bs:List Value} (hB:Lib.IsBuilder 74 5 b b bs w) (hk:∀ k,b≤k→k<w.heap.size→w'.heap[k]?=w.heap[k]?):Lib.IsBuilder 74 5 b b bs w':=by
 have key:∀ p,Lib.BuilderAt 74 5 b b p bs w→Lib.BuilderAt 74 5 b b p bs w':=by
  rintro p ⟨h1,v,h2,h3,h4⟩
  refine ⟨h1,v,(hk b (bC _) (fG.1 h2).1).trans h2,⟨h3.1,?_⟩,h4⟩
  rcases h3.2 with h|⟨gg,cap,cur,k1,k2,k3,k4⟩
  ·exact .inl h
  ·exact .inr ⟨gg,cap,cur,k1,k2,(hk gg k2 (fG.1 k3).1).trans k3,k4⟩
 exact hB.imp (key _) (key _)
theorem apx (hw0:Rw Tryz.prog (aQ Tryz.prog qQ) g0 emp w0) (t:Stp g0 (fun _=>none) emp w0 (rg b b3 g0) (fun _=>none) ⟨2,.leaf⟩ w) (hs:Sc Tryz.prog (aQ Tryz.prog qQ) w0.heap.size (rg b b3 g0) (fun _=>none) ⟨2,.leaf⟩ [] F8 A w) (h3:w0.heap.size≤b3) (h3b:b3<b) (hB:Lib.IsBuilder 74 5 b b (Lib.byteCells l) w) (hl:l.map UInt8.toNat=[109,97,105,110,58,32,73,79,32,85,110,105,116,10]) (hbx:VE b3 w)
  (hD:∀ d∈A.defers,∀ r,d.target=.collected r→r<b):c12.wpIn (Fw none) 0 Tryz.prog (Q3 g0 w0) A w:=by
 have hbw:b<w.heap.size:=by rcases hB with h|h<;>exact h.lt
 refine reg (o:=o12) H8 axq rfl aBN aK2 hs fun g1 β1 A1 w1 s1 t1 d1=>?_
 refine rM aBI (wpIn_seq ?_)
 refine reg (o:=o13) H8 ark rfl aBR kk9 s1 fun g2 β2 A2 w2 s2 t2 d2=>?_
 refine wpIn_seq ?_
 refine Ot (t:=false) s2.s rfl aBP ?_
 rw [if_neg (by simp)]
 refine wpIn_exit ?_
 show (if (0:Nat)=0 then Q1 g0 w0 .normal A2 w2 else Q1 g0 w0 (.exit 0) A2 w2)
 rw [if_pos rfl]
 have t12:=t1.trans t2
 have hle:=t12.le
 refine apy hw0 (t.trans t12) s2 h3 h3b (Ol hB fun k h1 h2=>ZF hw0 t12 (by omega) h2) hl (hbx.same (ZF hw0 t12 h3 (by omega))) (by rw [d2,d1];exact hD) (hle.ρ 0 _ rfl) (hle.ρ 1 _ rfl)
end Go.Vx.Tab
end
namespace Go.Vx.Tab
section
open Go Go.RowKit Go.Proofs
variable {g g' g'' g0:G} {σ σ' oJ:H} {w w' w'' w0 w7:World} {β β' β'':Nat→Option Nat} {lo lo':Lo} {fr fr' F F':List V} {A A':Act} {b b3:Nat} {T:Array Value} {D:List Deferred} {l:List UInt8} {γ:G}
def PL:Oper:={ dst:=some 48,op:=.call { callee:=.value (.func 15),args:=#[.tmp 10,.tmp 47],argTypes:=#[74,9] },type:=84,pos:= "run.go:89",after:=#[{ on:=8,ground:=Ground.data },{ on:=6,ground:=Ground.chain }],guard:=none }
theorem h11:y9[9]?=some PL:=by kernel_rfl
theorem aBm:∀ q∈qQ.idle,wZ Tryz.prog q:=fun q hq=>by
 have:q=154:=by simpa [qQ] using hq
 subst this;exact Ed
theorem slot (h:wL g β F A.tmps) (hl:F.length=52) (t:Nat) (ht:t<52):A.tmps[t]?=some (A.eval (.tmp t))∧Rs g β (aO F t) (A.eval (.tmp t)):=by
 have hsz:A.tmps.size=52:=by rw [←h.size];exact hl
 have hx:A.tmps[t]?=some (A.eval (.tmp t)):=by simp [Act.eval,Array.getD,hsz,ht]
 exact ⟨hx,h.at hx⟩
theorem agu {n:Nat} {x:Value} (h:Rs g β (.dF n 0) x) {c m:Nat} (hr:g.ρ n=some (c,m)):x=.pointer (some ⟨c,0,none⟩):=by
 cases h with
 |dF off h=>rw [hr] at h;cases h;rfl
theorem Zt {k:IntKind} {n:Int} {x:Value} (h:Rs g β (.int k n) x):x=.int k n:=by cases h;rfl
theorem apD {ns:List Nat} {x:Value} (h:Rs g β (.str ns) x):∃ s:ByteArray,x=.string s∧s.data.toList.map UInt8.toNat=ns:=by
 cases h with
 |str bs=>exact ⟨bs,rfl,rfl⟩
theorem apw (hw0:Rw Tryz.prog (aQ Tryz.prog qQ) g0 emp w0) (t:Stp g0 (fun _=>none) emp w0 g β (vF o10) w) (hs:Sc Tryz.prog (aQ Tryz.prog qQ) w0.heap.size g β (vF o10) (zJ o10) (oZ o10) A w) (t7:Stp (rg b b3 γ) (fun _=>none) ⟨2,.leaf⟩ w7 g β (vF o10) w) (h3:w0.heap.size≤b3) (h3b:b3<b) (hbw:b<w7.heap.size) (ayi:∀ o,γ.φ b o=none) (aeZ:∀ o,γ.φ b3 o=none)
  (hB:w7.heap[b]?=some (.cells #[.pointer none,.slice none 0 0] 74 (0,0))) (hbx:VE b3 w7) (hD:∀ d∈A.defers,∀ r,d.target=.collected r→r<b):c11.wpIn (Fw none) 0 Tryz.prog (Exit.inBlock 1 (Exit.then (c12.wpIn (Fw none) 0 Tryz.prog (Q3 g0 w0)) (Q3 g0 w0))) A w:=by
 rw [axp]
 have hn:bW WY (flatten ayk acC) (oZ o10) (zJ o10) (vF o10)=.norm (oZ o11) (zJ o11) (vF o11):=uy aBL
 refine V6 (D:=A.defers) (e:=9) (l:=acC) (f:=6) (β:=β) (g:=g) mixes aBm H8 aLO aLP (by intro h;have:=aLQ;rw [h] at this;cases this) aLR (by rw [ay4];decide) aLS (fun i hi hne=>?_) (fun i hi=>?_) (by simp) hs aK1 rfl (by rw [hn];simp) ?_
 ·rw [ay4] at hi
  have:=aLT
  rw [List.all_eq_true] at this
  exact this i (List.mem_range.2 (by omega))
 ·rw [ay4] at hi
  have:=aLU
  rw [List.all_eq_true] at this
  have:=this i (List.mem_range.2 hi)
  intro hc
  have hc':aaK i=3:=hc
  rw [hc'] at this
  cases this
 ·intro g' β' lo' σ' Gr A' w' K hrun hs' t11 hD' hQ
  rw [hn] at hrun
  cases hrun
  have tt:=t7.trans t11
  have hb0:g'.ρ 0=some (b,2):=tt.le.ρ 0 _ rfl
  have hb1:g'.ρ 1=some (b3,2):=tt.le.ρ 1 _ rfl
  have keep:∀ k,k<w7.heap.size→(∀ o,γ.φ k o=none)→w'.heap[k]?=w7.heap[k]?:=fun k hk hp=>tt.nI.block k hk xH (fun ⟨_,h⟩=>(by cases h)) (.inl hp)
  obtain ⟨q10,r10⟩:=slot hs'.s.f Nh 10 (by decide)
  obtain ⟨q47,r47⟩:=slot hs'.s.f Nh 47 (by decide)
  obtain ⟨q34,r34⟩:=slot hs'.s.f Nh 34 (by decide)
  obtain ⟨q35,r35⟩:=slot hs'.s.f Nh 35 (by decide)
  obtain ⟨q3,r3⟩:=slot hs'.s.f Nh 3 (by decide)
  rw [ayL] at r10
  rw [ayO] at r47
  rw [ayM] at r34
  rw [ayN] at r35
  rw [aBK] at r3
  have e10:=agu r10 hb0
  have e3:=agu r3 hb1
  have e34:=Zt r34
  have e35:=Zt r35
  obtain ⟨s,e47,hsl⟩:=apD r47
  rw [e10] at q10
  rw [e3] at q3
  rw [e34] at q34
  rw [e35] at q35
  obtain ⟨bd,hbd⟩:=axl
  refine Oa h11 rfl rfl rfl Tryz.func15 hbd ayG ?_
  have hargs:(#[Operand.tmp 10,.tmp 47]:Array Operand).map A'.eval=#[.pointer (some ⟨b,0,none⟩),.string s]:=by simp [e10,e47]
  rw [hargs]
  have ayc:b<w'.heap.size:=Nat.lt_of_lt_of_le hbw tt.nI.size
  have hsz:s.size=14:=by
   have:=congrArg List.length hsl
   simpa using this
  refine Calls.mono (Go.Proofs.YtbbcoelimmpbaaaGreatDoor.bld.write b b [] s w' (.inl ⟨bC _,_,(keep b hbw ayi).trans hB,⟨rfl,.inl ⟨rfl,rfl⟩⟩,by simp [Value.ownBlock]⟩) (by simp [hsz]) (by omega)) fun e w'' he=>?_
  obtain ⟨rfl,hbA,hbl⟩:=he
  refine ⟨_,rfl,hQ _ _ ?_⟩
  obtain ⟨hrw,hst⟩:=agA hw0 (t.trans t11) hs' hbl (by omega) (Nat.lt_of_lt_of_le ayc hbl.size) h3b
  have hdf:∀ d∈A'.defers,∀ r,d.target=.collected r→r<b:=by rw [hD'];exact hD
  have PW:∀ (v:Value) (t:Nat) (x:Value),t≠48→A'.tmps[t]?=some x→∀ y,(A'.put PL.dst v).tmps[t]?=some y→y=x:=by
   intro v t x hne hx y hy
   have:(A'.put PL.dst v).tmps=A'.tmps.setIfInBounds 48 v:=rfl
   rw [this,Array.getElem?_setIfInBounds,if_neg (fun h=>hne h.symm),hx] at hy
   cases hy;rfl
  refine apx (l:=s.data.toList) hw0 hst ⟨⟨?_,.afQ,hrw⟩,?_,Nat.le_trans (t.trans t11).nI.size hbl.size⟩ h3 h3b ?_ hsl ((hbx.same (keep b3 (by omega) aeZ)).same (hbl.block b3 h3b)) (by rw [put_defers];exact hdf)
  ·refine wL.PU (wL.PU (wL.PU (wL.PU (wL.YS 52 ?_) 34 fun x hx=>?_) 35 fun x hx=>?_) 10 fun x hx=>?_) 3 fun x hx=>?_
   ·have:(A'.put PL.dst (.tuple #[.int .i64 s.size,.nilIface])).tmps=A'.tmps.setIfInBounds 48 (.tuple #[.int .i64 s.size,.nilIface]):=rfl
    rw [this]
    have:=hs'.s.f.size
    rw [Nh] at this
    simp [←this]
   ·rw [PW _ 34 _ (by decide) q34 x hx];exact .dP (.int _ _)
   ·rw [PW _ 35 _ (by decide) q35 x hx];exact .dP (.int _ _)
   ·rw [PW _ 10 _ (by decide) q10 x hx];exact .dP (.dF 0 rfl)
   ·rw [PW _ 3 _ (by decide) q3 x hx];exact .dP (.dF 0 rfl)
  ·rw [put_defers];exact Df.low hbl hdf hs'.d
  ·exact .inr (by simpa [Lib.strCells,Lib.byteCells] using hbA)
theorem azo (hw0:Rw Tryz.prog (aQ Tryz.prog qQ) g0 emp w0) (t:Stp g0 (fun _=>none) emp w0 (rg b b3 γ) (fun _=>none) ⟨2,.leaf⟩ w7) (hs:Sc Tryz.prog (aQ Tryz.prog qQ) w0.heap.size (rg b b3 γ) (fun _=>none) ⟨2,.leaf⟩ [] F7 A w7) (h3:w0.heap.size≤b3) (h3b:b3<b) (hbw:b<w7.heap.size) (ayi:∀ o,γ.φ b o=none) (aeZ:∀ o,γ.φ b3 o=none)
  (hB:w7.heap[b]?=some (.cells #[.pointer none,.slice none 0 0] 74 (0,0))) (hbx:VE b3 w7) (hD:∀ d∈A.defers,∀ r,d.target=.collected r→r<b):(Code.seq (.seq c8 (.block 0 (.loop L7))) (.seq c13 .ret)).wpIn (Fw none) 0 Tryz.prog (Q0 g0 w0) A w7:=by
 refine wpIn_seq (wpIn_seq ?_)
 refine reg (o:=o8) H8 aAn rfl aLr kk8 hs fun g1 β1 A1 w1 s1 t1 d1=>?_
 refine wpIn_block ?_
 show (Code.loop L7).wpIn (Fw none) 0 Tryz.prog (Q2y g0 w0) A1 w1
 refine rM aBI (wpIn_seq ?_)
 refine reg (o:=o9) H8 ark rfl aLt kk9 s1 fun g2 β2 A2 w2 s2 t2 d2=>?_
 refine wpIn_seq ?_
 refine Ot (t:=true) s2.s rfl aLs ?_
 rw [if_pos rfl]
 refine wpIn_skip (wpIn_seq (wpIn_block (wpIn_seq ?_)))
 refine reg (o:=o10) H8 axo rfl aBJ aKZ s2 fun g3 β3 A3 w3 s3 t3 d3=>?_
 have tt:=(t1.trans t2).trans t3
 exact apw hw0 (t.trans tt) s3 tt h3 h3b hbw ayi aeZ hB hbx (by rw [d3,d2,d1];exact hD)
end
end Go.Vx.Tab
section
open Go Go.RowKit Go.Proofs
namespace Go.Vx
theorem VK (w:World) (o:Go.Obj):(w.alloc o).heap.size=w.heap.size+1:=by simp
theorem acy {P:Program} {o:Oper} {Q:Exit→Act→World→Prop} {a:Act} {w w':World} {v:Value} (hg:o.guard=none) (hnd:∀ c,o.op≠.defer c) (hr:(execOp a.eval o).run P w=.ok (.value v) w') (h:Q .normal (a.put o.dst v) w'):wpOpsIn (Fw none) 0 P #[o] Q (List.range 1) a w:=by
 have h1:List.range 1=[0]:=rfl
 have h2:(#[o]:Array Oper)[0]?=some o:=rfl
 rw [h1]
 unfold wpOpsIn
 rw [h2]
 dsimp only
 rw [if_pos (by simp [Region.wanted,hg])]
 refine ⟨fun _ _=>trivial,?_⟩
 have hse:(o.semAt (Fw none).round a.eval)=execOp a.eval o:=Oper.semAt_eq _ _ _ hnd
 rw [hse,hr,Oper.uponIn_value]
 exact h
end Go.Vx
namespace Go.Vx.Tab
set_option maxRecDepth 1000000
variable {g g' g'' g0:G} {σ σ' oJ:H} {w w' w'' w0 w7:World} {β β' β'':Nat→Option Nat} {lo lo':Lo} {fr fr' F F':List V} {A A':Act} {b b3:Nat} {T:Array Value} {D:List Deferred} {l:List UInt8} {γ:G}
def PK:Oper:={ dst:=some 10,op:=.alloc 74,type:=0,pos:= "run.go:87",after:=#[],guard:=none }
theorem aAm:c7=.region 7 #[PK] false:=by kernel_rfl
theorem amJ (a:Act) (w:World):(execOp a.eval PK).run Tryz.prog w=.ok (.value (.pointer (some ⟨w.heap.size,0,none⟩))) (w.alloc (.cells #[.pointer none,.slice none 0 0] 74 (0,0))):=by
 have hz:(zeroValue 74).run Tryz.prog w=.ok _ w:=Tryz.zeroValue74 w
 simp only [execOp,PK,Instr.alloc,aA,hz,Result.andThen,newVar,newRow,run_newObj_alloc,Sem.run_pure]
 try rfl
theorem start (hargs:kK g0 aT T.toList) (hw0:Rw Tryz.prog (aQ Tryz.prog qQ) g0 emp w0):(Code.seq c0 (.seq c1 (.seq cA2 (.seq c4 (.seq cA5 (.seq c7 (.seq (.seq c8 (.block 0 (.loop L7))) (.seq c13 .ret)))))))).wpIn (Fw none) 0 Tryz.prog (Q0 g0 w0) { tmps:=T++Array.replicate (52-T.size) undef,defers:=[] } w0:=by
 have hsc:Sc Tryz.prog (aQ Tryz.prog qQ) w0.heap.size g0 (fun _=>none) emp [] (pad 52 aT) { tmps:=T++Array.replicate (52-T.size) undef,defers:=[] } w0 :=
  ⟨⟨Rx hargs _,.afQ,hw0⟩,trivial,bC _⟩
 refine wpIn_seq (uV (o:=o0) H8 rfl (uy aLn) hsc fun g1 β1 A1 w1 s1 t1=>?_)
 refine wpIn_seq (uV (o:=o1) H8 rfl (uy aLo) s1 fun g2 β2 A2 w2 s2 t2=>?_)
 refine wpIn_seq (uV (o:=o2) H8 rfl (uy aLp) s2 fun g3 β3 A3 w3 s3 t3=>?_)
 refine wpIn_seq (uV (o:=o4) H8 rfl (uy aLq) s3 fun g4 β4 A4 w4 s4 t4=>?_)
 refine wpIn_seq (uV (o:=oP) H8 rfl (uy aLw) s4 fun g5 β5 A5 w5 s5 t5=>?_)
 have t:=(((t1.trans t2).trans t3).trans t4).trans t5
 refine wpIn_seq ?_
 rw [aAm]
 refine wpIn_region (acy rfl (fun c h=>by cases h) (amJ A5 w5) ?_)
 obtain ⟨q3,r3⟩:=slot s5.s.f ayR 3 (by decide)
 rw [aLu] at r3
 obtain ⟨b3,hβ,e3⟩:=r3
 obtain ⟨cs,c,ty,k1,k2,k3,k4⟩:=s5.s.b.boxes 3 b3 hβ
 rw [aBT] at k1
 cases k1
 obtain ⟨hl3,hp3⟩:=s5.s.b.apart 3 b3 hβ
 have hlt3:b3<w5.heap.size:=(fG.1 k2).1
 have h03:w0.heap.size≤b3:=by
  rcases Nat.lt_or_ge b3 w0.heap.size with h|h
  ·obtain ⟨u,hu⟩:=t.box 3 b3 hβ h;cases hu
  ·exact h
 obtain ⟨q8,r8⟩:=slot s5.s.f ayR 8 (by decide)
 have r8':Rv g5 v8 (A5.eval (.tmp 8)):=r8.rv fun u o e=>by
  have e':v8=.bf u o:=e
  have:=aL3
  rw [e'] at this
  cases this
 have hg5:∀ i,g5.ρ i=none:=fun i=>(s5.s.w.fresh i (by rw [aLv];exact Nat.zero_le _)).1
 have aAZ:g5.le (rg w5.heap.size b3 g5):=⟨fun i x h=>(by rw [hg5] at h;cases h),fun _ _ _ h=>h,fun _=>.rfl⟩
 have hwa:=s5.s.w.alloc (.cells #[.pointer none,.slice none 0 0] 74 (0,0))
 have hold:∀ k,k<w5.heap.size→(w5.alloc (.cells #[.pointer none,.slice none 0 0] 74 (0,0))).heap[k]?=w5.heap[k]?:=fun k hk=>Below.heap_alloc w5 _ k hk
 have hsz:(w5.alloc (.cells #[.pointer none,.slice none 0 0] 74 (0,0))).heap.size=w5.heap.size+1:=VK _ _
 have aI1:Stp g0 (fun _=>none) emp w0 (rg w5.heap.size b3 g5) (fun _=>none) ⟨2,.leaf⟩ (w5.alloc (.cells #[.pointer none,.slice none 0 0] 74 (0,0))) :=
  ⟨t.le.trans aAZ,⟨t.nI.os,t.nI.tape,t.nI.output,by have:=t.nI.size;omega,fun k hk hl hx hp=>(hold k (Nat.lt_of_lt_of_le hk t.nI.size)).trans (t.nI.block k hk hl hx hp)⟩,fun x h _=>absurd h xH,fun t b e=>(by cases e),fun x hx hp hl=>t.phi x hx hp hl⟩
 refine azo (b:=w5.heap.size) (b3:=b3) (γ:=g5) hw0 aI1 ⟨⟨?_,.afQ,Rw.base hwa.frozen (by omega) (by omega)⟩,?_,by have:=t.nI.size;omega⟩ h03 hlt3 (by omega) (fun o=>s5.s.w.nC (bC _) o) hp3 (Go.World.alloc_heap_new w5 _) ⟨c,ty,(hold b3 hlt3).trans k2,by simpa using k3.symm,fun j x hx=>?_⟩ (by rw [put_defers];exact Df.ltB s5.d)
 ·have hsz5:A5.tmps.size=52:=by rw [←s5.s.f.size];exact ayR
  have hT:(A5.put PK.dst (.pointer (some ⟨w5.heap.size,0,none⟩))).tmps=A5.tmps.setIfInBounds 10 (.pointer (some ⟨w5.heap.size,0,none⟩)):=rfl
  rw [hT]
  refine wL.PU (wL.PU (wL.PU (wL.YS 52 (by simp [hsz5])) 8 fun x hx=>?_) 10 fun x hx=>?_) 3 fun x hx=>?_
  ·have hx':A5.tmps[8]?=some x:=by simpa [Array.getElem?_setIfInBounds] using hx
   rw [q8] at hx'
   cases hx'
   exact .dP (r8'.mono aAZ)
  ·have:x=.pointer (some ⟨w5.heap.size,0,none⟩):=by simpa [Array.getElem?_setIfInBounds,hsz5] using hx.symm
   subst this
   exact .dP (.dF 0 rfl)
  ·have hx':A5.tmps[3]?=some x:=by simpa [Array.getElem?_setIfInBounds] using hx
   rw [q3,e3] at hx'
   cases hx'
   exact .dP (.dF 0 rfl)
 ·rw [put_defers]
  exact Df.keep (fun r x hr=>hold r (fG.1 hr).1) s5.d
 ·obtain ⟨v,h1,h2⟩:=k4 j x hx
  refine ⟨v,h1,fun g=>?_⟩
  have:x=.int .i64 0:=by
   match j,hx with
   |0,hx=>simpa using hx.symm
   |1,hx=>simpa using hx.symm
   |j+2,hx=>simp at hx
  subst this
  cases h2
  exact .int _ _
end Go.Vx.Tab
end
namespace Go.Vx.Tab
section
open Go Go.RowKit Go.Proofs
theorem aBD:Tryz.f6.name≠ "runtime.NumGoroutine":=by decide
theorem call7:nM Tryz.prog qQ 6 aT emp (.val rT (vF Vu)):=by
 intro g As w v σ' hargs hw e
 cases e
 refine .inl ⟨qI Tryz.func6 Y9 aBD As w,?_⟩
 refine callsIn_of_wp_marks Tryz.func6 Y9 trivial ?_
 refine wpIn_mono (start hargs hw) fun ex A' w' hp=>?_
 obtain ⟨wX,lo1,σ1,hout,g1,β1,hs1,hst⟩:=hp
 rcases hout with ⟨ho,_⟩|⟨j,ho,rfl⟩
 ·cases ho
 ·cases ho
  have hl:LeavesInM (Fw none) 0 Tryz.prog Tryz.f6 A'.tmps (fun|.returned x,w''=>uS Tryz.prog qQ g emp w rT (vF Vu) x w''|_,_=>False) A'.defers .returning w':=by
   refine MW (B0:=w.heap.size) (g:=g1) (β:=β1) (σ:=vF Vu) (lo:=zJ Vu) (fr:=oZ Vu) (A:=A') (comp:=(aQ Tryz.prog qQ)) A'.defers w' hs1.d hs1.s fun w2 hs2 hz ho ht hu hb2=>?_
   obtain ⟨x,hx,hxr⟩:=Kq hs2 apf aBS
   refine ⟨x,hx,g1,hxr,hs2.w,hst.le,⟨ho.trans hst.nI.os,ht.trans hst.nI.tape,hu.trans hst.nI.output,by rw [hz];exact hst.nI.size,fun k hk hl hb hp=>?_⟩,fun b hb hlt=>hst.live b hb hlt,fun t b hb _=>(by cases hb),fun b hlt hp hl o=>hst.phi b hlt hp hl o⟩
   rw [hb2 k hk]
   exact hst.nI.block k hk hl hb hp
  exact hl
theorem okT:Ans 6 aT rT:=fun σ=>Di call7 (by decide +kernel) (by decide +kernel) σ
end
def vf6:ak:=⟨52,[(2,false,false,0),(3,true,true,2),(4,false,false,0)],0,s (r [o 2 (.mv (c (S []))),o 3 (.alloc [j 0,j 0]),o 4 (.mv (i 0))]) (s (r [m 14 0,k 15 7 [t 14],m 13 15,o 16 (e 0 13),o 17 (e 1 13),o 18 (e 2 13),o 5 (.alloc [.aj,.aj]),o 6 (.alloc [j 0,j 0]),q (.store 2 (t 5) (t 16)),q (.store 2 (t 6) (t 17)),m 7 18]) (s (s (r [m 19 7,o 20 (.eq true 0 (t 19) (i 0))]) (z 20 (s (.draw [o 21 (ll 2 6),m 22 7,o 2 (.mv (c (S []))),.chk none 21 (ll 2 6),q (.store 2 (t 3) (t 21)),m 4 22]) .ret) .skip)) (s (r [o 24 (ll 2 5),k 25 14 [t 24],m 23 25,o 26 (e 0 23),o 27 (e 1 23),o 28 (e 2 23),m 8 26,m 9 27,m 7 28]) (s (s (r [m 29 7,o 30 (.eq true 0 (t 29) (i 0))]) (z 30 (s (r [o 31 (.build [j 0,j 0] []),m 32 7,o 2 (.mv (c (S []))),q (.store 2 (t 3) (t 31)),m 4 32]) .ret) .skip)) (s (r [o 10 (.bM [.nilPtr,.aj])]) (s (s (r [m 33 8,o 34 (.len 0 (t 33)),o 35 (.mv (i 0))]) (.block 0 (.loop (s (r [o 36 (.bin .lss (t 35) (t 34))]) (s (z 36 .skip (.exit 0)) (s (.block 1 (s (r [o 37 (.aV 5 (t 33) (t 35)),o 38 (ll 5 37),o 12 (.alloc [S [],.aj,S [],j 0,.aj]),q (.store 5 (t 12) (t 38))]) (.draw [o 39 (f 0 12),o 40 (l 39),o 41 (.bin .add (t 40) (c (S [58,32]))),o 42 (f 1 12),o 43 (f 1 42),o 44 (ll 3 43),k 45 16 [t 44],.chk none 40 (l 39),o 46 (.bin .add (t 41) (t 45)),o 47 (.bin .add (t 46) (c (S [10]))),k 48 15 [t 10,t 47]]))) (r [o 49 (.bin .add (t 35) (i 1)),m 35 49]))))))) (s (r [k 50 17 [t 10],o 51 (.build [j 0,j 0] []),m 2 50,q (.store 2 (t 3) (t 51)),o 4 (.mv (i 0))]) .ret))))))),true⟩
theorem azx:Gv Go.Proofs.Tryz.prog qQ 6=some vf6:=by kernel_rfl
def ax2 (i:Nat):Option ak:=bif Nat.beq i 6 then some vf6 else fns i
theorem aeE:∀ f vf,ax2 f=some vf→Q f vf:=fun f vf h=>by
 unfold ax2 at h
 cases hb:Nat.beq f 6 with
 |false=>rw [hb] at h;exact Jm f vf h
 |true =>
  rw [hb] at h
  cases h
  rw [aJ hb]
  exact ⟨azx,fun h=>absurd rfl h⟩
def lA:List (Nat×List V×V):=[axN,(6,aT,rT)]
theorem kA:qN (pz (mOf lA) ax2 1000000 (.call 4 []) zX bx0 emp) (.bool true)=true:=by decide +kernel
theorem okA:Ans 4 [] (.bool true):=fun σ=>arD (AU mixes (Pq (l:=lA) ⟨aCh,okT,trivial⟩) (fun f vf hf=>(aeE f vf hf).1) (fun f vf hf=>(aeE f vf hf).2) (fun q hq=>by
  have:q=154:=by simpa [qQ] using hq
  subst this;exact Ed)) kA rfl rfl σ
end Go.Vx.Tab
namespace Go.Vx
theorem ix0:Cc 9 [p1 Tab.Lm.2.2,.func (.func 10) [] []] (.int .i64 0):=evX (n:=1000000) (by decide +kernel) (by decide +kernel) rfl
theorem ix1:Cc 9 [p1 Tab.e189.2.2,.func (.func 10) [] []] (.int .i64 0):=evX (n:=1000000) (by decide +kernel) (by decide +kernel) rfl
theorem ix2:Cc 9 [p1 Tab.Lr.2.2,.func (.func 10) [] []] (.int .i64 0):=evX (n:=1000000) (by decide +kernel) (by decide +kernel) rfl
theorem ix3:Cc 9 [p1 Tab.Lp.2.2,.func (.func 10) [] []] (.int .i64 0):=evX (n:=1000000) (by decide +kernel) (by decide +kernel) rfl
theorem ix4:Cc 9 [p1 Tab.Ls.2.2,.func (.func 10) [] []] (.int .i64 0):=evX (n:=1000000) (by decide +kernel) (by decide +kernel) rfl
noncomputable def lP:List (Nat×List V×V):=[(4,[],.bool true),Tab.Lm,Tab.aeg,(9,[p1 Tab.Lm.2.2,.func (.func 10) [] []],.int .i64 0),Tab.e37,Tab.e189,Tab.aeh,(9,[p1 Tab.e189.2.2,.func (.func 10) [] []],.int .i64 0),Tab.e41,Tab.Lr,Tab.e195,(9,[p1 Tab.Lr.2.2,.func (.func 10) [] []],.int .i64 0),Tab.e35,Tab.Lp,Tab.aef,(9,[p1 Tab.Lp.2.2,.func (.func 10) [] []],.int .i64 0),Tab.e33,Tab.Ls,Tab.e197,(9,[p1 Tab.Ls.2.2,.func (.func 10) [] []],.int .i64 0),Tab.e39]
theorem aK3:Tab.Le lP:=⟨Tab.okA,Tab.aCj,Tab.aCs,ix0.ans (Tab.lW wG),Tab.aLB,Tab.aCk,Tab.aCu,ix1.ans (Tab.lW wG),Tab.aLF,Tab.aCo,Tab.aCr,ix2.ans (Tab.lW wG),Tab.aLz,Tab.aCn,Tab.aCq,ix3.ans (Tab.lW wG),Tab.aLx,Tab.aCp,Tab.aCt,ix4.ans (Tab.lW wG),Tab.aLD,trivial⟩
noncomputable def CB:iO:=fun f=>bif Nat.beq f 25 then some ⟨lim mmB oW 25⟩ else bif Nat.beq f 28 then some ⟨lim Vt yI 28⟩ else bif Nat.beq f 31 then some ⟨lim mmB oW 31⟩ else Tab.mOf lP f
theorem ayF:qR Go.Proofs.Tryz.prog qQ CB:=fun f a v h=>by
 unfold aG CB at h
 cases h1:Nat.beq f 25 with
 |true=>rw [h1] at h;rw [aJ h1];exact (Ai (show lim mmB oW 25 a=some v from h)).ans (azn Wx)
 |false =>
  rw [h1] at h
  cases h2:Nat.beq f 28 with
  |true=>rw [h2] at h;rw [aJ h2];exact (Ai (show lim Vt yI 28 a=some v from h)).ans (aL1 ayE)
  |false =>
   rw [h2] at h
   cases h3:Nat.beq f 31 with
   |true=>rw [h3] at h;rw [aJ h3];exact (Ai (show lim mmB oW 31 a=some v from h)).ans (azn Wx)
   |false=>rw [h3] at h;exact Tab.Pq aK3 f a v h
theorem wrT:WR CB Tab.fns where
 wm:=⟨fun _ _ h=>FX h,fun _ _ h=>FX h⟩
 stuck _ _ h:=FX h
 run:=⟨fun _=>rfl,rfl⟩
 play:=⟨fun _=>rfl,rfl⟩
 ended:=⟨fun _=>rfl,rfl⟩
 last:=⟨fun _=>rfl,rfl⟩
theorem aAD:Jp L0.C (L0.S 0) Tab.Lm.2.2 Tab.aeg.2.2 Tab.e37.2.2=true:=by decide +kernel
theorem hp0:aG CB 7 [.list (ofBytes (Vs 0++BX)) false]=some Tab.Lm.2.2:=by kernel_rfl
theorem hc0:aG CB 8 [.agg [p0 Tab.Lm.2.2,p1 Tab.Lm.2.2]]=some Tab.aeg.2.2:=by kernel_rfl
theorem hi0:aG CB 9 [p1 Tab.Lm.2.2,.func (.func 10) [] []]=some (.int .i64 0):=by kernel_rfl
theorem hb0:aG CB 11 [.agg [L0.C.ops,L0.C.defs],.int .i64 0,.int .i64 4000]=some Tab.e37.2.2:=by kernel_rfl
theorem aLW:IG CB Tab.fns (ofBytes (Vs 0++BX)):=xI wrT (L0.facts (fun ts t h1 h2 h3 h4=>EH (by omega) ts t h1 h2 h3 h4) L0.chk) L0.yH rfl rfl (by decide) aAD hp0 hc0 hi0 hb0
theorem aAE:Jp L1.C (L1.S 0) Tab.e189.2.2 Tab.aeh.2.2 Tab.e41.2.2=true:=by decide +kernel
theorem hp1:aG CB 7 [.list (ofBytes (Vs 1++BX)) false]=some Tab.e189.2.2:=by kernel_rfl
theorem hc1:aG CB 8 [.agg [p0 Tab.e189.2.2,p1 Tab.e189.2.2]]=some Tab.aeh.2.2:=by kernel_rfl
theorem hi1:aG CB 9 [p1 Tab.e189.2.2,.func (.func 10) [] []]=some (.int .i64 0):=by kernel_rfl
theorem hb1:aG CB 11 [.agg [L1.C.ops,L1.C.defs],.int .i64 0,.int .i64 4000]=some Tab.e41.2.2:=by kernel_rfl
theorem aLX:IG CB Tab.fns (ofBytes (Vs 1++BX)):=xI wrT (L1.facts (fun ts t h1 h2 h3 h4=>EH (by omega) ts t h1 h2 h3 h4) L1.chk) L1.yH rfl rfl (by decide) aAE hp1 hc1 hi1 hb1
theorem aAF:Jp L2.C (L2.S 0) Tab.Lr.2.2 Tab.e195.2.2 Tab.e35.2.2=true:=by decide +kernel
theorem hp2:aG CB 7 [.list (ofBytes (Vs 2++BX)) false]=some Tab.Lr.2.2:=by kernel_rfl
theorem hc2:aG CB 8 [.agg [p0 Tab.Lr.2.2,p1 Tab.Lr.2.2]]=some Tab.e195.2.2:=by kernel_rfl
theorem hi2:aG CB 9 [p1 Tab.Lr.2.2,.func (.func 10) [] []]=some (.int .i64 0):=by kernel_rfl
theorem hb2:aG CB 11 [.agg [L2.C.ops,L2.C.defs],.int .i64 0,.int .i64 4000]=some Tab.e35.2.2:=by kernel_rfl
theorem aLY:IG CB Tab.fns (ofBytes (Vs 2++BX)):=xI wrT (L2.facts (fun ts t h1 h2 h3 h4=>EH (by omega) ts t h1 h2 h3 h4) L2.chk) L2.yH rfl rfl (by decide) aAF hp2 hc2 hi2 hb2
theorem aAG:Jp L3.C (L3.S 0) Tab.Lp.2.2 Tab.aef.2.2 Tab.e33.2.2=true:=by decide +kernel
theorem hp3:aG CB 7 [.list (ofBytes (Vs 3++BX)) false]=some Tab.Lp.2.2:=by kernel_rfl
theorem hc3:aG CB 8 [.agg [p0 Tab.Lp.2.2,p1 Tab.Lp.2.2]]=some Tab.aef.2.2:=by kernel_rfl
theorem hi3:aG CB 9 [p1 Tab.Lp.2.2,.func (.func 10) [] []]=some (.int .i64 0):=by kernel_rfl
theorem hb3:aG CB 11 [.agg [L3.C.ops,L3.C.defs],.int .i64 0,.int .i64 4000]=some Tab.e33.2.2:=by kernel_rfl
theorem aLZ:IG CB Tab.fns (ofBytes (Vs 3++BX)):=xI wrT (L3.facts (fun ts t h1 h2 h3 h4=>EH (by omega) ts t h1 h2 h3 h4) L3.chk) L3.yH rfl rfl (by decide) aAG hp3 hc3 hi3 hb3
theorem aAH:Jp L4.C (L4.S 0) Tab.Ls.2.2 Tab.e197.2.2 Tab.e39.2.2=true:=by decide +kernel
theorem hp4:aG CB 7 [.list (ofBytes (Vs 4++BX)) false]=some Tab.Ls.2.2:=by kernel_rfl
theorem hc4:aG CB 8 [.agg [p0 Tab.Ls.2.2,p1 Tab.Ls.2.2]]=some Tab.e197.2.2:=by kernel_rfl
theorem hi4:aG CB 9 [p1 Tab.Ls.2.2,.func (.func 10) [] []]=some (.int .i64 0):=by kernel_rfl
theorem hb4:aG CB 11 [.agg [L4.C.ops,L4.C.defs],.int .i64 0,.int .i64 4000]=some Tab.e39.2.2:=by kernel_rfl
theorem aL0:IG CB Tab.fns (ofBytes (Vs 4++BX)):=xI wrT (L4.facts (fun ts t h1 h2 h3 h4=>EH (by omega) ts t h1 h2 h3 h4) L4.chk) L4.yH rfl rfl (by decide) aAH hp4 hc4 hi4 hb4
theorem azb (a:List V):aG CB 3 a=none:=rfl
theorem awT:aG CB 4 []=some (.bool true):=by kernel_rfl
theorem afw:∀ (bs:List Nat) (k:Nat),k<(bs.map fun b=>V.agg [.int .u8 (.ofNat b)]).length→∃ b,bn k (bs.map fun b=>V.agg [.int .u8 (.ofNat b)])=some (.agg [.int .u8 (.ofNat b)])
 |[],k,h=>by simp at h
 |b::bs,0,_=>⟨b,rfl⟩
 |b::bs,k+1,h=>afw bs k (by simpa using h)
theorem Rn:∀ bs:List Nat,bT (bs.map fun b=>V.agg [.int .u8 (.ofNat b)])=true
 |[]=>rfl
 |b::bs=>by
  rw [List.map_cons]
  show ((true&&true)&&bT _)=true
  rw [Rn bs];rfl
theorem acd {n:Nat} (hn:n<256) {s:V} (hs:s=.aj∨∃ bs:List Nat,s=.list (bs.map fun b=>V.agg [.int .u8 (.ofNat b)]) false):Tab.Ans 3 [.int .u8 (.ofNat n),s] (.bool true):=by
 have hfl:bT [.int .u8 (.ofNat n),s]=true:=by
  rcases hs with rfl|⟨bs,rfl⟩
  ·rfl
  ·show (true&&(bT _&&true))=true
   rw [Rn bs];rfl
 have key:∃ N h2,∀ m,N≤m→runM CB Tab.fns m (.call 3 [.int .u8 (.ofNat n),s]) [] [] emp=.val (.bool true) h2:=by
  rcases hs with rfl|⟨bs,rfl⟩
  ·exact afC azb rfl awT hn (.inl rfl)
  ·by_cases hl:bs.length=1000
   ·refine ayv azb rfl awT hn (afw bs) (by simpa using hl) ?_
    have h5:n%5<5:=Nat.mod_lt _ (by decide)
    generalize n%5=k at h5
    rcases (show k=0∨k=1∨k=2∨k=3∨k=4 from by omega) with rfl|rfl|rfl|rfl|rfl
    ·exact aLW
    ·exact aLX
    ·exact aLY
    ·exact aLZ
    ·exact aL0
   ·exact afC azb rfl awT hn (.inr ⟨_,rfl,jk (by simpa using hl)⟩)
 obtain ⟨N,h2,hr⟩:=key
 exact fun σ=>(EvA.ans (Tab.lW ayF) (show EvA CB Tab.fns _ _ _ from ⟨hfl,rfl,N,fun m hm=>⟨h2,hr m hm⟩⟩)) σ
end Go.Vx
