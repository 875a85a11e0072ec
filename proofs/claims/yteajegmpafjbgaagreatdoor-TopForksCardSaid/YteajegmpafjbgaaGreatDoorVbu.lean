/- A part of the proof of TopForks. -/
import Derived.KernelRfl
import Derived.Test.YteajegmpafjbgaaGreatDoorVat
import Derived.Test.YteajegmpafjbgaaGreatDoorVau
import Derived.Test.YteajegmpafjbgaaGreatDoorVav
import Derived.Test.YteajegmpafjbgaaGreatDoorVaw
import Derived.Test.YteajegmpafjbgaaGreatDoorVax
import Derived.Test.YteajegmpafjbgaaGreatDoorVay
import Derived.Test.YteajegmpafjbgaaGreatDoorVaz
import Derived.Test.YteajegmpafjbgaaGreatDoorVba
import Derived.Test.YteajegmpafjbgaaGreatDoorVbb
import Derived.Test.YteajegmpafjbgaaGreatDoorVbc
import Derived.Test.YteajegmpafjbgaaGreatDoorVbd
import Derived.Test.YteajegmpafjbgaaGreatDoorVbe
import Derived.Test.YteajegmpafjbgaaGreatDoorVbf
import Derived.Test.YteajegmpafjbgaaGreatDoorVbg
import Derived.Test.YteajegmpafjbgaaGreatDoorVbh
import Derived.Test.YteajegmpafjbgaaGreatDoorVbi
import Derived.Test.YteajegmpafjbgaaGreatDoorVbj
import Derived.Test.YteajegmpafjbgaaGreatDoorVbk
import Derived.Test.YteajegmpafjbgaaGreatDoorVbl
import Derived.Test.YteajegmpafjbgaaGreatDoorVbm
import Derived.Test.YteajegmpafjbgaaGreatDoorVbn
import Derived.Test.YteajegmpafjbgaaGreatDoorVbo
set_option linter.all false
set_option maxRecDepth 1000000
set_option maxHeartbeats 80000000
noncomputable section
open Go Go.RowKit
section
open Go Go.RowKit
namespace Go.Vx.Tab
def tfA:aN:=s (s (r [m 21 8,m 22 6,bt 23 .lss 21 22]) (zx 23 0)) (s (.block 1 (r [m 26 7,o 27 (.bin .add (t 26) (c (S [32,102,111,114,107,73,79,32,40,112,114,105,110,116,32]))),m 28 8,bi 29 .add 28 1,k 30 5 [t 29],bt 31 .add 27 30,o 32 (.bin .add (t 31) (c (S [41,32,59]))),m 7 32])) (r [m 24 8,bi 25 .add 24 1,m 8 25]))
def tfI:aN:=s (s (r [m 76 11,m 77 10,bt 78 .lss 76 77]) (zx 78 4)) (s (.block 5 (s (.draw [fa 81 5 9,ld 82 81,m 83 11,ia 84 1 82 83,ld 85 84,fa 86 5 9,ld 87 86,m 88 10,ia 89 1 87 88,ld 90 89,o 91 (.eq false 0 (t 85) (t 90))]) (z 91 (s (r [u0 4]) .ret) .skip))) (r [m 79 11,bi 80 .add 79 1,m 11 80]))
def tfO:aN:=s (s (r [m 38 10,fa 39 5 9,ld 40 39,ln 41 0 40,bt 42 .lss 38 41]) (zx 42 2)) (s (.block 3 (s (s (r [fa 45 5 9,ld 46 45,m 47 10,ia 48 1 46 47,ld 49 48,bi 50 .lss 49 0,m 51 50,g0 51 52 (f 5 9),g0 51 53 (l 52),h0 51 54 10,g0 51 55 (.ji 1 (t 53) (t 54)),g0 51 56 (l 55),h0 51 57 6,g0 51 58 (.bin .gtr (t 56) (t 57)),ka 59 51 58,m 60 59,g0 60 61 (f 5 9),g0 60 62 (l 61),h0 60 63 10,g0 60 64 (.ji 1 (t 62) (t 63)),g0 60 65 (l 64),g0 60 66 (.eq false 0 (t 65) (i 0)),h0 60 67 66,h1 67 68 10,g1 67 69 (f 5 9),g1 67 70 (l 69),g1 67 71 (.len 0 (t 70)),g1 67 72 (.bin .sub (t 71) (i 1)),g1 67 73 (.eq true 0 (t 68) (t 72)),g0 60 74 (.pick (t 67) (t 73) T0),ka 75 60 74]) (z 75 (s (r [u0 4]) .ret) .skip)) (s (r [ci 11 0]) (bl 4 tfI)))) (r [m 43 10,bi 44 .add 43 1,m 10 44]))
def tfE:aN:=s (r [fa 92 5 9,ld 93 92,ln 94 0 93,bi 95 .gtr 94 0,m 96 95,g1 96 97 (f 5 9),g1 96 98 (l 97),g1 96 99 (f 5 9),g1 96 100 (l 99),g1 96 101 (.len 0 (t 100)),g1 96 102 (.bin .sub (t 101) (i 1)),g1 96 103 (.ji 1 (t 98) (t 102)),g1 96 104 (l 103),g1 96 105 (.eq false 0 (t 104) (i 0)),kd 106 96 105,m 12 106]) (s (r [m 107 5,m 108 107,g1 108 109 (f 0 9),g1 108 110 (l 109),g1 108 111 (.eq false 0 (t 110) (i 2)),h1 108 112 12,g1 108 113 (.eq false 1 (t 111) (t 112)),kd 114 108 113,m 115 114,h1 115 116 12,h1 115 117 116,g0 117 118 (f 0 9),g0 117 119 (l 118),g0 117 120 (.eq false 0 (t 119) (i 5)),g1 115 121 (.pick (t 117) T1 (t 120)),kd 122 115 121,m 4 122]) .ret)
def tfR:aN:=s (r [m 33 7,o 34 (.bin .add (t 33) (c (S [32,112,114,105,110,116,32,48,32,125,10]))),o 35 (.nG (t 34)),m 36 1,k 37 6 [t 35,i 3000,i 100,t 36],o 9 (.alloc [j 0,j 0,j 0,j 0,j 0,.aj,S [],j 0,j 0,j 0]),st 10 9 37]) (s (s (r [ci 10 0]) (bl 2 tfO)) tfE)
def tfT:aN:=s (r [o 7 (.mv (c (S [109,97,105,110,32,61,32,100,111,32,123])))]) (s (s (r [ci 8 0]) (bl 0 tfA)) tfR)
def tfS(C:aN):aN:=s (r [u0 4]) (s (r [k 13 4 [],m 5 13]) (s (r [m 14 0,o 15 (.bin .rem (t 14) (c (b 9))),o 16 (.mM .i64 (t 15)),m 6 16]) (s (s (r [m 17 1,ln 18 0 17,bi 19 .gtr 18 600]) (z 19 (s (r [m 20 5,m 4 20]) .ret) .skip)) C)))
end Go.Vx.Tab
namespace Go.Vx
theorem afP:(Tab.vf3).body=Tab.tfS Tab.tfT:=rfl
def fkP:List Nat:=[109,97,105,110,32,61,32,100,111,32,123]
def fkA:List Nat:=[32,102,111,114,107,73,79,32,40,112,114,105,110,116,32]
def fkB:List Nat:=[41,32,59]
def fkZ:List Nat:=[32,112,114,105,110,116,32,48,32,125,10]
def fkT:Nat->List Nat
 |0=>fkP
 |i+1=>((fkT i++fkA)++[48+(i+1)])++fkB
theorem Vz:∀i,(fkT i).length=11+19*i
 |0=>rfl
 |i+1=>by
  have h1:fkA.length=15:=rfl;have h2:fkB.length=3:=rfl;simp only[fkT,bI,Vz i,h1,h2,bP,jS];omega
theorem axb{a b:Nat}(hb:Nat.beq b 0=false):nM (.int .u8 (.ofNat a)) (.int .u8 (.ofNat b))=some (.int .u8 (.ofNat (a%b))):=by
 have h1:sK (.ofNat b) 0=false:=hb;simp only[nM,h1,eqK,Bool.not_true,Bool.or_self,cond_false];rfl
theorem anj{a:Nat}:nM (.int .u8 (.ofNat a)) (.int .u8 9)=some (.int .u8 (.ofNat (a%9))):=axb (b:=9) rfl
theorem wrap_u8{a:Nat}(h:a<256):xZ .i64 (.ofNat a)=.ofNat a:=by
 have:Nat.blt a 9223372036854775808=true:=by simp;omega
 show(bif Nat.blt a 9223372036854775808 then Int.ofNat a else _)=_;rw[this];rfl
variable {mm:eF}{fns:Nat->Option bF}{fr F:List V}{lo:Lo}{h h2:H}{s uT:V}{sc:List V}{txt:List Nat}{i n N:Nat}{C L D:aN}
structure TA (fr:List V)(s:V)(N:Nat)(txt:List Nat)(i:Nat):Prop where
 fl:fr.length=123
 s1:aA fr 1=s
 s5:aA fr 5=.bool true
 s6:aA fr 6=.int .i64 (.ofNat N)
 s7:aA fr 7=.str txt
 s8:aA fr 8=.int .i64 (.ofNat i)
structure TS (fr:List V)(s:V)(N:Nat):Prop where
 fl:fr.length=123
 s1:aA fr 1=s
 s5:aA fr 5=.bool true
 s6:aA fr 6=.int .i64 (.ofNat N)
theorem aoe(hF:F.length=123)(f0:aA F 0=.int .u8 (.ofNat n))(f1:aA F 1=uT)(Gy:Scr sc uT)(hn:n<256)(haw:ay mm 4 []=some (.bool true))(hl:sc.length<=600) :
  ∃fr,(∀N,runM mm fns (N+100) (.code (Tab.tfS C)) F [] h=aS (runM mm fns (N+95)) C fr [] h)/\TS fr uT (n%9):=by
 have hw:=wrap_u8 (a:=n%9) (by omega);have haw:=λN fr lo h=>dJ (fns:=fns) (n:=N) (fr:=fr) (lo:=lo) (h:=h) haw;have hb:wX 600 (.ofNat sc.length)=false:=by rw[vH];simp only[lJ,decide_eq_false_iff_not];omega
 rcases Gy.two with rfl|⟨rfl,rfl⟩
 .refine⟨?fra,?eqa,?tsa⟩
  case eqa =>
   intro N;simp -implicitDefEqProofs only[Tab.tfS,WW,yc,dX,jX,vF,aZ,aK,aC.ev,aC.evs,bG,cO,dD,eqK,OR.eU,LL9,Nat.reduceEqDiff,Nat.reduceLT,hF,f0,f1,hw,haw,anj,hb];rfl
  case tsa=>constructor<;>simp only[LL9,Nat.reduceEqDiff,Nat.reduceLT,hF,f1]
 .refine⟨?frb,?eqb,?tsb⟩
  case eqb =>
   intro N;simp -implicitDefEqProofs only[Tab.tfS,WW,dX,jX,vF,aZ,aK,aC.ev,aC.evs,bG,cO,dD,eqK,OR.eU,LL9,Nat.reduceEqDiff,Nat.reduceLT,hF,f0,f1,hw,haw,anj];rfl
  case tsb=>constructor<;>simp only[LL9,Nat.reduceEqDiff,Nat.reduceLT,hF,f1]
theorem as9(hF:F.length=123)(f0:aA F 0=.int .u8 (.ofNat n))(f1:aA F 1=.list sc false)(hn:n<256)(haw:ay mm 4 []=some (.bool true))(hl:600<sc.length) :
  ∃fr,(∀N,runM mm fns (N+100) (.code (Tab.tfS C)) F [] h=.jump .ret fr [] h)/\aA fr 4=.bool true:=by
 have hw:=wrap_u8 (a:=n%9) (by omega);have haw:=λN fr lo h=>dJ (fns:=fns) (n:=N) (fr:=fr) (lo:=lo) (h:=h) haw;have hb:wX 600 (.ofNat sc.length)=true:=by rw[vH];simp only[lJ,decide_eq_true_eq];omega
 refine⟨?fra,?eqa,?tsa⟩
 case eqa =>
  intro N;simp -implicitDefEqProofs only[Tab.tfS,WW,dX,jX,vF,OC,aZ,aK,aC.ev,aC.evs,bG,cO,dD,eqK,OR.eU,LL9,Nat.reduceEqDiff,Nat.reduceLT,hF,f0,f1,hw,haw,anj,hb];rfl
 case tsa=>simp only[LL9,Nat.reduceLT,hF]
theorem aAB(hI:TS fr s N):∃aB,(∀q,runM mm fns (q+100) (.code Tab.tfT) fr [] h=jC (runM mm fns (q+98)) Tab.tfR (iw 0 (runM mm fns (q+96) (.code (.loop Tab.tfA)) aB [] h)))/\TA aB s N fkP 0:=by
 have hF:=hI.fl;refine⟨?fr,?eq,?ts⟩
 case eq =>
  intro q;unfold Tab.tfT;simp only[Tab.bl];generalize aN.loop Tab.tfA=LL;generalize Tab.tfR=D;simp -implicitDefEqProofs only[WW,dX,jX,jK,aZ,aK,aC.ev,bG];rfl
 case ts=>constructor<;>first|rfl|(simp only[LL9,Nat.reduceEqDiff,Nat.reduceLT,hF,hI.s1,hI.s5,hI.s6];done)|(simp only[LL9,Nat.reduceEqDiff,Nat.reduceLT,hF];rfl)
theorem asY(hI:TA fr s N txt i)(hi:i<N)(hN:N<=8)(hdig:ay mm 5 [.int .i64 (.ofNat (i+1))]=some (.str [48+(i+1)]))(hb:txt.length<=1000) :
  ∃aB,(∀N,runM mm fns (N+100) (.code Tab.tfA) fr [] h=.norm aB [] h)/\TA aB s N (((txt++fkA)++[48+(i+1)])++fkB) (i+1):=by
 have hlen:=hI.fl;have h1:Nat.ble (i+1) N=true:=dO hi;have h2:Nat.ble i 9223372036854775806=true:=dO (by omega);have hd:=λN fr lo h=>dJ (fns:=fns) (n:=N) (fr:=fr) (lo:=lo) (h:=h) hdig;have b1:Nat.ble (txt.length+15) 4294967295=true:=dO (by omega);have b2:Nat.ble ((txt++fkA).length+1) 4294967295=true:=dO (by have:fkA.length=15:=rfl;rw[bI];omega);have b3:Nat.ble (((txt++fkA)++[48+(i+1)]).length+3) 4294967295=true:=dO (by have:fkA.length=15:=rfl;rw[bI,bI];simp;omega);unfold fkA fkB at *;refine⟨?aB,?eq,?tb⟩
 case eq =>
  intro N;simp -implicitDefEqProofs only[Tab.tfA,WW,aS,aZ,aK,aC.ev,aC.evs,bG,Nat.reduceAdd,Nat.blt,Nat.ble,cO,dD,mV,eH,iK,eqK,OR.eU,LL9,Nat.reduceEqDiff,Nat.reduceLT,hlen,hI.s6,hI.s7,hI.s8,h1,h2,hd,b1,b2,b3];rfl
 case tb=>constructor<;>simp only[LL9,Nat.reduceEqDiff,Nat.reduceLT,hlen,hI.s1,hI.s5,hI.s6]
theorem asZ(hI:TA fr s N txt N) :
  ∃aB,(∀N,runM mm fns (N+100) (.code Tab.tfA) fr [] h=.jump (.exit 0) aB [] h)/\TA aB s N txt N:=by
 have hlen:=hI.fl;have hi:Nat.ble (N+1) N=false:=tu (by omega);refine⟨?aB,?eq,?tb⟩
 case eq =>
  intro q;simp -implicitDefEqProofs only[Tab.tfA,WW,aS,aZ,aK,aC.ev,bG,Nat.blt,cO,dD,eH,eqK,OR.eU,LL9,Nat.reduceEqDiff,Nat.reduceLT,hlen,hI.s6,hI.s8,hi];rfl
 case tb=>constructor<;>simp only[LL9,Nat.reduceEqDiff,hlen,hI.s1,hI.s5,hI.s6,hI.s7,hI.s8]
theorem afL(hN:N<=8)(hdig:∀i,i<8->ay mm 5 [.int .i64 (.ofNat (i+1))]=some (.str [48+(i+1)])):∀(m:Nat) {i:Nat} {fr:List V},i+m=N->TA fr s N (fkT i) i->∃aB,(∀q,runM mm fns (q+101+m) (.code (.loop Tab.tfA)) fr [] h=.jump (.exit 0) aB [] h)/\TA aB s N (fkT N) N
 |0,i,fr,hm,hI=>by
  have:i=N:=by omega
  subst this;obtain⟨aB,h1,h2⟩:=asZ (mm:=mm) (fns:=fns) (h:=h) hI;refine⟨aB,λq=>?_,h2⟩;rw[show q+101+0=q+100+1 by omega,dR];simp only[aS,h1,qP]
 |m+1,i,fr,hm,hI=>by
  obtain⟨aB,h3,h4⟩:=asY (mm:=mm) (fns:=fns) (h:=h) hI (by omega) hN (hdig i (by omega)) (by rw[Vz];omega);obtain⟨AX,g1,g2⟩:=afL hN hdig m (i:=i+1) (by omega) h4;refine⟨AX,λq=>?_,g2⟩;rw[show q+101+(m+1)=(q+1+m)+100+1 by omega,dR];simp only[aS,h3,iR];rw[show q+1+m+100=q+101+m by omega];exact g1 q
end Go.Vx
end
namespace Go.Vx
section
variable {mm:eF}{fns:Nat->Option bF}{fr:List V}{lo:Lo}{h h2:H}{s O:V}{st txt os:List Nat}{i j k v n N M kk:Nat}
structure TR (fr:List V)(lo:Lo)(N kk:Nat)(O:V)(st:List Nat)(j:Nat):Prop where
 fl:fr.length=123
 s5:aA fr 5=.bool true
 s6:aA fr 6=.int .i64 (.ofNat N)
 s9:aA fr 9=.aY 9 0
 b9:dA lo 9=some [.int .i64 (.ofNat kk),.int .i64 (.ofNat 0),.int .i64 (.ofNat 0),.int .i64 (.ofNat 0),.int .i64 (.ofNat 0),O,.str st,.int .i64 (.ofNat 0),.int .i64 (.ofNat 0),.int .i64 (.ofNat j)]
structure TC (fr:List V)(lo:Lo)(N kk:Nat)(O:V)(st:List Nat)(j i:Nat):Prop extends TR fr lo N kk O st j where
 s10:aA fr 10=.int .i64 (.ofNat i)
structure TD (fr:List V)(lo:Lo)(N kk:Nat)(O:V)(st:List Nat)(j i k:Nat):Prop extends TC fr lo N kk O st j i where
 s11:aA fr 11=.int .i64 (.ofNat k)
theorem axx(hI:TA fr s N txt N)(hs:s=.aj\/∃l,s=.list l false)(hO:O=.aj\/∃l,O=.list l false)(hb:txt.length<=10000)
  (hrun:∀q,runM mm fns (M+q) (.call 6 [.list (ofBytes (txt++fkZ)) false,.int .i64 3000,.int .i64 100,s]) [] [] h=.val (.agg [.int .i64 (.ofNat kk),.int .i64 (.ofNat 0),.int .i64 (.ofNat 0),.int .i64 (.ofNat 0),.int .i64 (.ofNat 0),O,.str st,.int .i64 (.ofNat 0),.int .i64 (.ofNat 0),.int .i64 (.ofNat j)]) h2) :
  ∃aB lo2,(∀q,runM mm fns (M+q+100) (.code Tab.tfR) fr [] h=jC (runM mm fns (M+q+98)) Tab.tfE (iw 2 (runM mm fns (M+q+96) (.code (.loop Tab.tfO)) aB lo2 h2)))/\TC aB lo2 N kk O st j 0:=by
 have hF:=hI.fl;have b1:Nat.ble (txt.length+11) 4294967295=true:=dO (by omega);have hr2:∀q z,runM mm fns (M+q+z) (.call 6 [.list (ofBytes (txt++fkZ)) false,.int .i64 3000,.int .i64 100,s]) [] [] h=.val (.agg [.int .i64 (.ofNat kk),.int .i64 (.ofNat 0),.int .i64 (.ofNat 0),.int .i64 (.ofNat 0),.int .i64 (.ofNat 0),O,.str st,.int .i64 (.ofNat 0),.int .i64 (.ofNat 0),.int .i64 (.ofNat j)]) h2:=λq z=>by rw[gq];exact hrun (q+z)
 clear hrun;unfold fkZ at hr2;rcases hs with rfl|⟨l,rfl⟩<;>rcases hO with rfl|⟨l2,rfl⟩
 .refine⟨?fra,?loa,?eqa,?tsa⟩
  case eqa =>
   intro q;have hrun:=hr2 q;generalize M+q=M0 at hrun|-;unfold Tab.tfR;simp only[Tab.bl];generalize aN.loop Tab.tfO=LL;generalize Tab.tfE=D;simp -implicitDefEqProofs only[WW,dX,jX,jK,aZ,aK,aC.ev,aC.evs,bG,dA,eP,bH,splice,bC,bf,Nat.reduceAdd,Nat.beq,Nat.blt,Nat.ble,cO,iK,OR.eU,LL9,Nat.reduceEqDiff,Nat.reduceLT,Nat.beq,hF,hI.s1,hI.s7,b1,hrun,jE];rfl
  case tsa =>
   constructor
   .constructor<;>first|rfl|(simp only[LL9,Nat.reduceEqDiff,Nat.reduceLT,hF,hI.s5,hI.s6];done)|(simp only[LL9,Nat.reduceEqDiff,Nat.reduceLT,Nat.beq,hF,hI.s5,hI.s6];rfl)
   .first|(simp only[LL9,Nat.reduceLT,hF];done)|(simp only[LL9,Nat.reduceEqDiff,Nat.reduceLT,Nat.beq,hF];rfl)
 .refine⟨?frb,?lob,?eqb,?tsb⟩
  case eqb =>
   intro q;have hrun:=hr2 q;generalize M+q=M0 at hrun|-;unfold Tab.tfR;simp only[Tab.bl];generalize aN.loop Tab.tfO=LL;generalize Tab.tfE=D;simp -implicitDefEqProofs only[WW,dX,jX,jK,aZ,aK,aC.ev,aC.evs,bG,dA,eP,bH,splice,bC,bf,Nat.reduceAdd,Nat.beq,Nat.blt,Nat.ble,cO,iK,OR.eU,LL9,Nat.reduceEqDiff,Nat.reduceLT,Nat.beq,hF,hI.s1,hI.s7,b1,hrun,jE];rfl
  case tsb =>
   constructor
   .constructor<;>first|rfl|(simp only[LL9,Nat.reduceEqDiff,Nat.reduceLT,hF,hI.s5,hI.s6];done)|(simp only[LL9,Nat.reduceEqDiff,Nat.reduceLT,Nat.beq,hF,hI.s5,hI.s6];rfl)
   .first|(simp only[LL9,Nat.reduceLT,hF];done)|(simp only[LL9,Nat.reduceEqDiff,Nat.reduceLT,Nat.beq,hF];rfl)
 .refine⟨?frc,?loc,?eqc,?tsc⟩
  case eqc =>
   intro q;have hrun:=hr2 q;generalize M+q=M0 at hrun|-;unfold Tab.tfR;simp only[Tab.bl];generalize aN.loop Tab.tfO=LL;generalize Tab.tfE=D;simp -implicitDefEqProofs only[WW,dX,jX,jK,aZ,aK,aC.ev,aC.evs,bG,dA,eP,bH,splice,bC,bf,Nat.reduceAdd,Nat.beq,Nat.blt,Nat.ble,cO,iK,OR.eU,LL9,Nat.reduceEqDiff,Nat.reduceLT,Nat.beq,hF,hI.s1,hI.s7,b1,hrun,jE];rfl
  case tsc =>
   constructor
   .constructor<;>first|rfl|(simp only[LL9,Nat.reduceEqDiff,Nat.reduceLT,hF,hI.s5,hI.s6];done)|(simp only[LL9,Nat.reduceEqDiff,Nat.reduceLT,Nat.beq,hF,hI.s5,hI.s6];rfl)
   .first|(simp only[LL9,Nat.reduceLT,hF];done)|(simp only[LL9,Nat.reduceEqDiff,Nat.reduceLT,Nat.beq,hF];rfl)
 .refine⟨?frd,?lod,?eqd,?tsd⟩
  case eqd =>
   intro q;have hrun:=hr2 q;generalize M+q=M0 at hrun|-;unfold Tab.tfR;simp only[Tab.bl];generalize aN.loop Tab.tfO=LL;generalize Tab.tfE=D;simp -implicitDefEqProofs only[WW,dX,jX,jK,aZ,aK,aC.ev,aC.evs,bG,dA,eP,bH,splice,bC,bf,Nat.reduceAdd,Nat.beq,Nat.blt,Nat.ble,cO,iK,OR.eU,LL9,Nat.reduceEqDiff,Nat.reduceLT,Nat.beq,hF,hI.s1,hI.s7,b1,hrun,jE];rfl
  case tsd =>
   constructor
   .constructor<;>first|rfl|(simp only[LL9,Nat.reduceEqDiff,Nat.reduceLT,hF,hI.s5,hI.s6];done)|(simp only[LL9,Nat.reduceEqDiff,Nat.reduceLT,Nat.beq,hF,hI.s5,hI.s6];rfl)
   .first|(simp only[LL9,Nat.reduceLT,hF];done)|(simp only[LL9,Nat.reduceEqDiff,Nat.reduceLT,Nat.beq,hF];rfl)
end
end Go.Vx
section
open Go Go.RowKit
namespace Go.Vx.Tab
def ad6:aN:=r [m 43 10,bi 44 .add 43 1,m 10 44]
end Go.Vx.Tab
namespace Go.Vx
variable {mm:eF}{fns:Nat->Option bF}{fr:List V}{lo:Lo}{h:H}{st:List Nat}{os rest anl:List V}{i j k v w N kk:Nat}{e:Bool}
theorem Xz{m:Nat}(hm:m<=1000000):xZ .i64 (Int.sub (.ofNat (m+1)) (.ofNat 1))=.ofNat m:=auM (dO hm)
theorem as4(hI:TD fr lo N kk (.list os false) st j i k)(hk:k<i)(hi:i<os.length)(hi2:i<=1000000)(h1:skip k os=.int .i64 (.ofNat v)::rest)(h2:skip i os=.int .i64 (.ofNat w)::anl)(hvw:v≠w) :
  ∃aB,(∀N,runM mm fns (N+100) (.code Tab.tfI) fr lo h=.norm aB lo h)/\TD aB lo N kk (.list os false) st j i (k+1):=by
 obtain⟨⟨⟨fl,s5,s6,s9,b9⟩,s10⟩,s11⟩:=hI;have b1:Nat.ble (k+1) i=true:=dO hk;have b2:Nat.ble (k+1) os.length=true:=dO (by omega);have b3:Nat.ble (i+1) os.length=true:=dO (by omega);have b4:Nat.ble k 9223372036854775806=true:=dO (by omega);have b5:Nat.beq v w=false:=iH hvw;have b6:sK (.ofNat v) (.ofNat w)=false:=b5;refine⟨?aB,?eq,?ti⟩
 case eq =>
  intro N;simp -implicitDefEqProofs only[Tab.tfI,WW,aS,aZ,aK,fG,aC.ev,bG,aF,skip,Nat.beq,Nat.blt,Nat.ble,cO,dD,mV,eH,iK,eqK,nH,fU,gX,jU,OR.eU,LL9,Nat.reduceEqDiff,Nat.reduceLT,Nat.beq,fl,s9,s10,s11,b9,b1,b4,b6,h1,h2];rfl
 case ti =>
  constructor
  .constructor
   .constructor<;>first|exact b9|(simp only[LL9,Nat.reduceEqDiff,fl,s5,s6,s9];done)
   .simp only[LL9,Nat.reduceEqDiff,s10]
  .simp only[LL9,Nat.reduceLT,fl]
theorem as5{O:V}(hI:TD fr lo N kk O st j i i):∃aB,(∀N,runM mm fns (N+100) (.code Tab.tfI) fr lo h=.jump (.exit 4) aB lo h)/\TD aB lo N kk O st j i i:=by
 obtain⟨⟨⟨fl,s5,s6,s9,b9⟩,s10⟩,s11⟩:=hI;have b1:Nat.ble (i+1) i=false:=tu (by omega);refine⟨?aB,?eq,?ti⟩
 case eq =>
  intro N;simp -implicitDefEqProofs only[Tab.tfI,WW,aS,aZ,aK,aC.ev,bG,Nat.blt,cO,dD,eH,eqK,OR.eU,LL9,Nat.reduceEqDiff,Nat.reduceLT,fl,s10,s11,b1];rfl
 case ti =>
  constructor
  .constructor
   .constructor<;>first|exact b9|(simp only[LL9,Nat.reduceEqDiff,fl,s5,s6,s9];done)
   .simp only[LL9,Nat.reduceEqDiff,s10]
  .simp only[LL9,Nat.reduceEqDiff,s11]
theorem afN{js:List Nat}(hn:js.Nodup)(hi:i<js.length)(hi2:i<=1000000):∀(m:Nat) {k:Nat} {fr:List V},k+m=i->TD fr lo N kk (.list (js.map jn) false) st j i k->∃aB,(∀q,runM mm fns (q+101+m) (.code (.loop Tab.tfI)) fr lo h=.jump (.exit 4) aB lo h)/\TD aB lo N kk (.list (js.map jn) false) st j i i
 |0,k,fr,hm,hI=>by
  have:k=i:=by omega
  subst this;obtain⟨aB,h1,h2⟩:=as5 (mm:=mm) (fns:=fns) (h:=h) hI;refine⟨aB,λq=>?_,h2⟩;rw[show q+101+0=q+100+1 by omega,dR];simp only[aS,h1,qP]
 |m+1,k,fr,hm,hI=>by
  have hk:k<js.length:=by omega
  obtain⟨r1,e1⟩:∃rest,skip k (js.map jn)=jn js[k]::rest:=lD (show(js.map jn)[k]?=some (jn js[k])from by rw[iW,bV hk];rfl);obtain⟨r2,e2⟩:∃rest,skip i (js.map jn)=jn js[i]::rest:=lD (show(js.map jn)[i]?=some (jn js[i])from by rw[iW,bV hi];rfl);have hne:js[k]≠js[i]:=λe=>by
   have:=(List.getElem_inj hn).1 e;omega
  obtain⟨aB,h3,h4⟩:=as4 (mm:=mm) (fns:=fns) (h:=h) hI (by omega) (by simpa using hi) hi2 e1 e2 hne;obtain⟨AX,g1,g2⟩:=afN hn hi hi2 m (k:=k+1) (by omega) h4;refine⟨AX,λq=>?_,g2⟩;rw[show q+101+(m+1)=(q+1+m)+100+1 by omega,dR];simp only[aS,h3,iR];rw[show q+1+m+100=q+101+m by omega];exact g1 q
theorem as1(hI:TC fr lo N kk (.list os false) st j i)(hi:i<os.length)(hi2:os.length<=1000000)(h1:skip i os=.int .i64 (.ofNat v)::rest)(hv:v<=N)(hv0:v=0->i+1=os.length) :
  ∃aB,(∀q,runM mm fns (q+300) (.code Tab.tfO) fr lo h=jC (runM mm fns (q+298)) Tab.ad6 (iw 3 (iw 4 (runM mm fns (q+294) (.code (.loop Tab.tfI)) aB lo h))))/\TD aB lo N kk (.list os false) st j i 0:=by
 obtain⟨⟨fl,s5,s6,s9,b9⟩,s10⟩:=hI;have b2:Nat.ble (i+1) os.length=true:=dO (by omega);have b3:Nat.ble (N+1) v=false:=tu (by omega);have b7:Nat.ble (v+1) 0=false:=rfl;by_cases h0:v=0
 .subst h0;have hl:=hv0 rfl;have hs:xZ .i64 (Int.sub (.ofNat os.length) (.ofNat 1))=.ofNat i:=by rw[<- hl];exact Xz (by omega)
  have hbe:Nat.beq i i=true:=jP i;have hei:sK (.ofNat i) (.ofNat i)=true:=hbe;refine⟨?fra,?eqa,?tia⟩
  case eqa =>
   intro q;unfold Tab.tfO;rw[show Tab.r [Tab.m 43 10,Tab.bi 44 .add 43 1,Tab.m 10 44]=Tab.ad6 from rfl];simp only[Tab.bl];generalize aN.loop Tab.tfI=LL;generalize Tab.ad6=D;simp -implicitDefEqProofs only[WW,yc,dX,jX,vF,jK,aZ,aK,aC.ev,bG,aF,skip,Nat.beq,Nat.blt,Nat.ble,cO,dD,mV,eH,eqK,nH,fU,gX,jU,OR.eU,LL9,Nat.reduceEqDiff,Nat.reduceLT,Nat.beq,fl,s6,s9,s10,b9,b2,h1,hs,hei];rfl
  case tia =>
   constructor
   .constructor
    .constructor<;>first|exact b9|(simp only[LL9,Nat.reduceEqDiff,fl,s5,s6,s9];done)
    .simp only[LL9,Nat.reduceEqDiff,s10]
   .simp only[LL9,Nat.reduceLT,fl]
 .have b8:Nat.beq v 0=false:=iH h0;have b9':sK (.ofNat v) 0=false:=b8;refine⟨?frb,?eqb,?tib⟩
  case eqb =>
   intro q;unfold Tab.tfO;rw[show Tab.r [Tab.m 43 10,Tab.bi 44 .add 43 1,Tab.m 10 44]=Tab.ad6 from rfl];simp only[Tab.bl];generalize aN.loop Tab.tfI=LL;generalize Tab.ad6=D;simp -implicitDefEqProofs only[WW,yc,dX,jX,vF,jK,aZ,aK,aC.ev,bG,aF,skip,Nat.beq,Nat.blt,Nat.ble,cO,dD,eH,eqK,nH,fU,gX,jU,OR.eU,LL9,Nat.reduceEqDiff,Nat.reduceLT,Nat.beq,fl,s6,s9,s10,b9,b2,b3,h1,b8];rfl
  case tib =>
   constructor
   .constructor
    .constructor<;>first|exact b9|(simp only[LL9,Nat.reduceEqDiff,fl,s5,s6,s9];done)
    .simp only[LL9,Nat.reduceEqDiff,s10]
   .simp only[LL9,Nat.reduceLT,fl]
end Go.Vx
end
namespace Go.Vx
section
variable {mm:eF}{fns:Nat->Option bF}{fr:List V}{lo:Lo}{h:H}{st:List Nat}{os rest anl:List V}{i j k v w N kk:Nat}{O:V}
theorem as3(hI:TD fr lo N kk O st j i i)(hi2:i<=1000000):∃aB,(∀q,jC (runM mm fns (q+298)) Tab.ad6 (iw 3 (.norm fr lo h))=.norm aB lo h)/\TC aB lo N kk O st j (i+1):=by
 obtain⟨⟨⟨fl,s5,s6,s9,b9⟩,s10⟩,s11⟩:=hI;have b4:Nat.ble i 9223372036854775806=true:=dO (by omega);refine⟨?aB,?eq,?ti⟩
 case eq =>
  intro q;simp -implicitDefEqProofs only[Tab.ad6,WW,aS,aZ,aK,aC.ev,bG,Nat.blt,Nat.ble,cO,mV,iK,eqK,OR.eU,LL9,Nat.reduceLT,fl,s10,b4];rfl
 case ti =>
  constructor
  .constructor<;>first|exact b9|(simp only[LL9,Nat.reduceEqDiff,fl,s5,s6,s9];done)
  .simp only[LL9,Nat.reduceLT,fl]
theorem as2(hO:(O=.aj/\i=0)\/∃os,O=.list os false/\i=os.length)(hI:TC fr lo N kk O st j i):∃aB,(∀q,runM mm fns (q+300) (.code Tab.tfO) fr lo h=.jump (.exit 2) aB lo h)/\TR aB lo N kk O st j:=by
 obtain⟨⟨fl,s5,s6,s9,b9⟩,s10⟩:=hI;rcases hO with⟨rfl,rfl⟩|⟨os,rfl,rfl⟩
 .have b1:Nat.ble (0+1) 0=false:=rfl;refine⟨?fra,?eqa,?tia⟩
  case eqa =>
   intro q;simp -implicitDefEqProofs only[Tab.tfO,WW,aS,aZ,aK,aC.ev,bG,aF,skip,Nat.blt,Nat.ble,cO,dD,eH,eqK,OR.eU,LL9,Nat.reduceEqDiff,Nat.reduceLT,fl,s9,s10,b9];rfl
  case tia=>constructor<;>first|exact b9|(simp only[LL9,Nat.reduceEqDiff,fl,s5,s6,s9];done)
 .have b1:Nat.ble (os.length+1) os.length=false:=tu (by omega);refine⟨?frb,?eqb,?tib⟩
  case eqb =>
   intro q;simp -implicitDefEqProofs only[Tab.tfO,WW,aS,aZ,aK,aC.ev,bG,aF,skip,Nat.blt,cO,dD,eH,eqK,OR.eU,LL9,Nat.reduceEqDiff,Nat.reduceLT,fl,s9,s10,b9,b1];rfl
  case tib=>constructor<;>first|exact b9|(simp only[LL9,Nat.reduceEqDiff,fl,s5,s6,s9];done)
theorem awY{os:List Nat}:(oV os=.aj/\os.length=0)\/∃l,oV os=.list l false/\os.length=l.length:=by
 cases os with
 |nil=>exact .inl ⟨rfl,rfl⟩
 |cons a l=>exact .inr ⟨_,rfl,by simp⟩
theorem NT{os:List Nat}{i:Nat}(h:i<os.length):oV os=.list (os.map jn) false:=by
 cases os with
 |nil=>simp at h
 |cons a l=>rfl
theorem afM{os:List Nat}(hn:os.Nodup)(hv:∀v∈os,v<=N)(h0:∀i (hi:i<os.length),os[i]=0->i+1=os.length)(hl:os.length<=1000):∀(m:Nat) {i:Nat} {fr:List V},i+m=os.length->TC fr lo N kk (oV os) st j i ->
  ∃aB,(∀q,runM mm fns (q+2000+m) (.code (.loop Tab.tfO)) fr lo h=.jump (.exit 2) aB lo h)/\TR aB lo N kk (oV os) st j
 |0,i,fr,hm,hI=>by
  have:i=os.length:=by omega
  subst this;obtain⟨aB,h1,h2⟩:=as2 (mm:=mm) (fns:=fns) (h:=h) awY hI;refine⟨aB,λq=>?_,h2⟩;rw[show q+2000+0=q+1699+300+1 by omega,dR];simp only[aS,h1,qP]
 |m+1,i,fr,hm,hI=>by
  have hi:i<os.length:=by omega
  rw[NT hi]at hI;obtain⟨r1,e1⟩:∃rest,skip i (os.map jn)=jn os[i]::rest:=lD (show(os.map jn)[i]?=some (jn os[i])from by rw[iW,bV hi];rfl);obtain⟨aB,h3,h4⟩:=as1 (mm:=mm) (fns:=fns) (h:=h) hI (by simpa using hi) (by simp;omega) e1 (hv _ (ku hi)) (λe=>by rw[jo];exact h0 i hi e);obtain⟨AX,h5,h6⟩:=afN (mm:=mm) (fns:=fns) (h:=h) hn hi (by omega) i (k:=0) (by omega) h4;obtain⟨J9,h7,h8⟩:=as3 (mm:=mm) (fns:=fns) (h:=h) h6 (by omega);rw[<- NT hi]at h8;obtain⟨fr5,g1,g2⟩:=afM hn hv h0 hl m (i:=i+1) (by omega) h8;refine⟨fr5,λq=>?_,g2⟩;rw[show q+2000+(m+1)=(q+1700+m)+300+1 by omega,dR];have hstep:runM mm fns (q+1700+m+300) (.code Tab.tfO) fr lo h=.norm J9 lo h:=by
   rw[h3,show q+1700+m+294=(q+1893+m-i)+101+i by omega,h5,iO,show Nat.beq 4 4=true from rfl,cond_true];exact h7 _
  simp only[aS,hstep,iR];rw[show q+1700+m+300=q+2000+m by omega];exact g1 q
theorem axw(hI:TR fr lo N 5 .aj st j):∃aB,(∀q,runM mm fns (q+300) (.code Tab.tfE) fr lo h=.jump .ret aB lo h)/\aA aB 4=.bool true:=by
 obtain⟨fl,s5,s6,s9,b9⟩:=hI;refine⟨?aB,?eq,?ti⟩
 case eq =>
  intro q;simp -implicitDefEqProofs only[Tab.tfE,WW,aS,aZ,aK,aC.ev,bG,aF,skip,Nat.beq,Nat.blt,Nat.ble,cO,dD,eqK,nH,fU,sS,gX,jU,OR.eU,LL9,Nat.reduceEqDiff,Nat.reduceLT,Nat.beq,fl,s5,s9,b9];rfl
 case ti=>simp only[LL9,Nat.reduceLT,fl]
theorem as6(hl:os.length=i+1)(hi:i<=1000000)(h1:skip i os=.int .i64 (.ofNat 0)::rest)(hI:TR fr lo N 2 (.list os false) st j):∃aB,(∀q,runM mm fns (q+300) (.code Tab.tfE) fr lo h=.jump .ret aB lo h)/\aA aB 4=.bool true:=by
 obtain⟨fl,s5,s6,s9,b9⟩:=hI;have hs:xZ .i64 (Int.sub (.ofNat (i+1)) (.ofNat 1))=.ofNat i:=Xz hi;have b2:Nat.ble (0+1) (i+1)=true:=dO (by omega);have b3:Nat.ble (i+1) (i+1)=true:=dO (by omega);have b4:Nat.ble 1 (i+1)=true:=dO (by omega);refine⟨?aB,?eq,?ti⟩
 case eq =>
  intro q;simp -implicitDefEqProofs only[Tab.tfE,WW,aS,aZ,aK,aC.ev,bG,aF,skip,Nat.beq,Nat.blt,Nat.ble,cO,dD,mV,eqK,nH,fU,sS,gX,jU,OR.eU,LL9,Nat.reduceEqDiff,Nat.reduceLT,Nat.beq,fl,s5,s9,b9,hl,hs,h1];rfl
 case ti=>simp only[LL9,Nat.reduceLT,fl]
theorem as7(hl:os.length=i+1)(hi:i<=1000000)(h1:skip i os=.int .i64 (.ofNat v)::rest)(hv:v≠0)(hI:TR fr lo N 5 (.list os false) st j):∃aB,(∀q,runM mm fns (q+300) (.code Tab.tfE) fr lo h=.jump .ret aB lo h)/\aA aB 4=.bool true:=by
 obtain⟨fl,s5,s6,s9,b9⟩:=hI;have hs:xZ .i64 (Int.sub (.ofNat (i+1)) (.ofNat 1))=.ofNat i:=Xz hi;have b2:Nat.ble (0+1) (i+1)=true:=dO (by omega);have b3:Nat.ble (i+1) (i+1)=true:=dO (by omega);have b4:Nat.ble 1 (i+1)=true:=dO (by omega);have b5:Nat.beq v 0=false:=iH hv;have b6:sK (.ofNat v) 0=false:=b5;refine⟨?aB,?eq,?ti⟩
 case eq =>
  intro q;simp -implicitDefEqProofs only[Tab.tfE,WW,aS,aZ,aK,aC.ev,bG,aF,skip,Nat.beq,Nat.blt,Nat.ble,cO,dD,mV,eqK,nH,fU,sS,gX,jU,OR.eU,LL9,Nat.reduceEqDiff,Nat.reduceLT,Nat.beq,fl,s5,s9,b9,hl,hs,b5,h1];rfl
 case ti=>simp only[LL9,Nat.reduceLT,fl]
end
section
variable {mm:eF}{fns:Nat->Option bF}{fr F:List V}{lo:Lo}{h:H}{st os:List Nat}{sc:List V}{uT:V}{i j n N kk:Nat}
theorem ajd{m:Nat}(ht:XP m kk os):∀i (hi:i<os.length),os[i]=0->i+1=os.length:=λi hi e=>by
 obtain⟨hn,_,hc⟩:=ht;rcases hc with⟨_,l,rfl⟩|⟨_,h0⟩
 .have hl:l.length<(l++[0]).length:=by simp
  have e2:(l++[0])[l.length]=0:=by simp
  have:=(List.getElem_inj hn).1 (e.trans e2.symm);simp;omega
 .exact absurd (by rw[<- e];exact ku hi) h0
theorem axv{m:Nat}(ht:XP m kk os)(hl:os.length<=1000)(hI:TR fr lo N kk (oV os) st j):∃aB,(∀q,runM mm fns (q+300) (.code Tab.tfE) fr lo h=.jump .ret aB lo h)/\aA aB 4=.bool true:=by
 obtain⟨hn,_,hc⟩:=ht;rcases hc with⟨rfl,l,rfl⟩|⟨rfl,h0⟩
 .have hll:l.length<(l++[0]).length:=by simp
  rw[NT hll]at hI;obtain⟨r,e⟩:∃rest,skip l.length ((l++[0]).map jn)=jn 0::rest:=lD (show((l++[0]).map jn)[l.length]?=some (jn 0)from by simp);exact as6 (i:=l.length) (by simp) (by simp at hl;omega) e hI
 .cases os with
  |nil=>exact axw hI
  |cons a l =>
   have hll:l.length<(a::l).length:=by simp
   rw[NT hll]at hI;obtain⟨r,e⟩:∃rest,skip l.length ((a::l).map jn)=jn (a::l)[l.length]::rest:=lD (show((a::l).map jn)[l.length]?=some (jn (a::l)[l.length])from by rw[iW,bV hll];rfl);exact as7 (i:=l.length) (by simp) (by simp at hl;omega) e (λe2=>h0 (by rw[<- e2];exact ku hll)) hI
theorem aaZ{lo:Lo}(hr:aA fr 4=.bool true):∃h3,wC Tab.vf3 (.jump .ret fr lo h)=.val (.bool true) h3:=by
 have hres:(Tab.vf3).results=[(4,false,false,0)]:=rfl;refine⟨h,?_⟩;show finish Tab.vf3 (resV fr lo h (Tab.vf3).results) h=_;rw[hres];simp only[resV,hr];rfl
theorem ak1(hrec:∀a,ay mm 3 a=none)(hfn:fns 3=some Tab.vf3)(haw:ay mm 4 []=some (.bool true))(hn:n<256)
  (hdig:∀i,i<8->ay mm 5 [.int .i64 (.ofNat (i+1))]=some (.str [48+(i+1)]))
  (Gy:Scr sc uT) (hl:sc.length<=600) (hx:∀i,i<sc.length->∃b rest,skip i sc=.agg [.int .u8 (.ofNat b)]::rest/\b<256)
  (hrun:aju mm fns (n%9) (ofBytes (fkT (n%9)++fkZ))) :
  ∃N h2,∀m,N<=m->runM mm fns m (.call 3 [.int .u8 (.ofNat n),uT]) [] [] h=.val (.bool true) h2:=by
 have h8:n%9<=8:=by omega
 obtain⟨F,hFe⟩:∃F,F=pad 123 [.int .u8 (.ofNat n),uT]:=⟨_,rfl⟩;obtain⟨mP,e1,i1⟩:=aoe (mm:=mm) (fns:=fns) (h:=h) (F:=F) (C:=Tab.tfT) (n:=n) (uT:=uT) (by rw[hFe];rfl) (by rw[hFe];rfl) (by rw[hFe];rfl) Gy hn haw hl;obtain⟨aB,e2,i2⟩:=aAB (mm:=mm) (fns:=fns) (h:=h) i1;obtain⟨AX,e3,i3⟩:=afL (mm:=mm) (fns:=fns) (h:=h) h8 hdig (n%9) (i:=0) (by omega) i2;obtain⟨M,j,h2,kk,os,s,ht,hr⟩:=hrun h uT sc Gy hl hx;obtain⟨J9,NP,e4,i4⟩:=axx (mm:=mm) (fns:=fns) (M:=M) (kk:=kk) (O:=oV os) (st:=s) (j:=j) (h2:=h2) i3 (by cases Gy with|nil _=>exact .inl rfl|list=>exact .inr ⟨_,rfl⟩) (by cases os with|nil=>exact .inl rfl|cons a l=>exact .inr ⟨_,rfl⟩) (by rw[Vz];omega) hr;have hos:os.length<=1000:=by
  have:=EM (n%9+1) os ht.1 (λq hq=>by have:=ht.2.1 q hq;omega);omega
 obtain⟨fr5,e5,i5⟩:=afM (mm:=mm) (fns:=fns) (h:=h2) ht.1 ht.2.1 (ajd ht) hos os.length (i:=0) (by omega) i4;obtain⟨fr6,e6,i6⟩:=axv (mm:=mm) (fns:=fns) (h:=h2) ht hos i5;obtain⟨h7,e7⟩:=aaZ (lo:=NP) (h:=h2) i6;refine⟨M+6000,h7,λm hm=>?_⟩;obtain⟨q,rfl⟩:∃q,m=M+q+5000:=⟨m-M-5000,by omega⟩;rw[show M+q+5000=(M+q+4899)+100+1 by omega,bn (hrec _) hfn rfl,afP,show(Tab.vf3).nt=123 from rfl,<- hFe,e1,<- dR,
  show M+q+4899+95+1=(M+q+4895)+100 by omega,e2,show M+q+4895+96=(M+q+4890-n%9)+101+n%9 by omega,e3,iO,show Nat.beq 0 0=true from rfl,cond_true,iR,
  show M+q+4895+98=M+(q+4893)+100 by omega,e4,show M+(q+4893)+96=(M+q+2989-os.length)+2000+os.length by omega,e5,iO,show Nat.beq 2 2=true from rfl,cond_true,iR,
  show M+(q+4893)+98=(M+q+4691)+300 by omega,e6]
 exact e7
theorem aqs(hrec:∀a,ay mm 3 a=none)(hfn:fns 3=some Tab.vf3)(haw:ay mm 4 []=some (.bool true))(hn:n<256)(hl:600<sc.length) :
  ∃N h2,∀m,N<=m->runM mm fns m (.call 3 [.int .u8 (.ofNat n),.list sc false]) [] [] h=.val (.bool true) h2:=by
 obtain⟨F,hFe⟩:∃F,F=pad 123 [.int .u8 (.ofNat n),.list sc false]:=⟨_,rfl⟩;obtain⟨mP,e1,i1⟩:=as9 (mm:=mm) (fns:=fns) (h:=h) (F:=F) (C:=Tab.tfT) (n:=n) (sc:=sc) (by rw[hFe];rfl) (by rw[hFe];rfl) (by rw[hFe];rfl) hn haw hl;obtain⟨h7,e7⟩:=aaZ (lo:=[]) (h:=h) i1;refine⟨101,h7,λm hm=>?_⟩;obtain⟨q,rfl⟩:∃q,m=q+100+1:=⟨m-101,by omega⟩;rw[bn (hrec _) hfn rfl,afP,show(Tab.vf3).nt=123 from rfl,<- hFe,e1];exact e7
end
def aD6(bs:List Bool)(h:bs.length<=9):WU bs=true:=by
 match bs,h with
 |[],_=>exact nJ NY [] (BH 3 _ (by simp))
 |[a],_=>exact nJ NY [a] (BH 3 _ (by simp))
 |[a,b],_=>exact nJ NY [a,b] (BH 3 _ (by simp))
 |[a,b,c],_=>exact nJ NY [a,b,c] (BH 3 _ (by simp))
 |a::b::c::d::l,h =>
  have hl:l∈yE 5:=BH 5 l (by simp at h;omega);cases a<;>cases b<;>cases c<;>cases d
  .exact nJ aEc l hl
  .exact nJ aEb l hl
  .exact nJ aEa l hl
  .exact nJ aD9 l hl
  .exact nJ aD8 l hl
  .exact nJ aD7 l hl
  .exact nJ pt9 l hl
  .exact nJ pt8 l hl
  .exact nJ pt7 l hl
  .exact nJ pt6 l hl
  .exact nJ pt5 l hl
  .exact nJ pt4 l hl
  .exact nJ pt3 l hl
  .exact nJ pt2 l hl
  .exact nJ pt1 l hl
  .exact nJ pt0 l hl
section
open Go Go.RowKit Go.Vx.Tab
def aAq:∀n,n<9->wX (Int.ofNat (1+3*tot n (fK n)+1*1000+50)) 3000=true/\1+3*tot n (fK n)+1*1000+60<=100000/\1+3*tot n (fK n)+1*601<=3000:=by decide +kernel
def akV{n:Nat}(hn:n<9)(hm:mF n=true)(hk:KP n n)(hc:CF n):Facts (fC n) n (fS n) (fK n):=by
 have hK:∀t,t≠0->fK n t=7:=λt h=>by unfold fK;rw[iH h];rfl
 have hS:∀t,t≠0->fS n t=fk n t:=λt h=>by unfold fS;rw[iH h];rfl
 have hq:∀t,t<=n->t≠0->ahz (fC n) t 7 (fk n t)=true/\kmF (fC n) n t (fk n t) (n+1-t)=true:=λt h h0=>by
  have:=hk t (by omega) h;unfold kF at this;rw[J6,ah]at this;exact this
 have h:=hc.cst;have r:=aAq n hn;unfold mF at hm;rw[aeJ,J6]at hm;refine{ cst:=⟨h.p,h.pd,h.f,h.fd,h.w,h.wd,hc.chk⟩,most:=r.1,room:=r.2.1,main:=hm,s0:=rfl,kid:=λt a b=>?_,PW:=λt m a b c d=>?_,kpos:=λt _=>?_,pops:=h.pl,Uk:=h.pld,nB:=by omega,pat:=λbs h=>aD6 bs (by omega),ayy:=?_ }
 .rw[hK t b,hS t b];exact(hq t a b).1
 .rw[hK t b,hS t b];have:=al3 (hq t a b).2 (m-t-1) (by omega)
  rwa[show t+1+(m-t-1)=m by omega]at this
 .unfold fK;cases Nat.beq t 0
  .exact Nat.le_add_left 1 6
  .show 0<7+13*n;omega
 .obtain⟨ds,ed,h1,h2,h3⟩:=h.ds;exact⟨ds,ed,3000,(by decide:0<1),(by decide:1<=1000),h1,h2,rfl,r.2.2,by decide,h3⟩
end
end Go.Vx
namespace Go.Vx.Tab
def aen:XT.length=150:=by kernel_rfl
def abL{α:Type}:∀(n:Nat) (l:List α),(dr n l).length=l.length-n
 |0,l=>rfl
 |n+1,[]=>by rw[Vg];simp
 |n+1,x::l=>by
  have:dr (n+1) (x::l)=dr n l:=rfl;rw[this,abL n l];simp
def p0:uZ (pre 0):=by
 have h:=abL 150 XT;rw[aen,Nat.sub_self]at h;show uZ (Tab.dr 150 XT);rw[List.eq_nil_of_length_eq_zero h]
 trivial
def pA:uZ (pre 150) :=
 (jJ k38 rfl (by decide) (jJ k37 rfl (by decide) (jJ k36 rfl (by decide) (jJ k35 rfl (by decide) (jJ k34 rfl (by decide) (jJ k33 rfl (by decide) (jJ k32 rfl (by decide) (jJ k31 rfl (by decide) (jJ k30 rfl (by decide) (jJ k29 rfl (by decide) (jJ k28 rfl (by decide) (jJ k27 rfl (by decide) (jJ k26 rfl (by decide) (jJ k25 rfl (by decide) (jJ k24 rfl (by decide) (jJ k23 rfl (by decide) (jJ k22 rfl (by decide) (jJ k21 rfl (by decide) (jJ k20 rfl (by decide) (jJ k19 rfl (by decide) (jJ k18 rfl (by decide) (jJ k17 rfl (by decide) (jJ k16 rfl (by decide) (jJ k15 rfl (by decide) (jJ k14 rfl (by decide) (jJ k13 rfl (by decide) (jJ k12 rfl (by decide) (jJ k11 rfl (by decide) (jJ k10 rfl (by decide) (jJ k9 rfl (by decide) (jJ k8 rfl (by decide) (jJ k7 rfl (by decide) (jJ k6 rfl (by decide) (jJ k5 rfl (by decide) (jJ k4 rfl (by decide) (jJ k3 rfl (by decide) (jJ k2 rfl (by decide) (jJ k1 rfl (by decide) (jJ k0 rfl (by decide) p0)))))))))))))))))))))))))))))))))))))))
def ok{n:Nat}(h:n<150):AnE (en n):=by
 have h1:uZ (Tab.dr (149-n) XT):=uZ.dr pA;have h2:=abL (149-n) XT;rw[aen]at h2;unfold en;cases hq:Tab.dr (149-n) XT with
 |nil=>rw[hq]at h2;simp at h2;omega
 |cons e l=>rw[hq]at h1;exact h1.1
section
open Go Go.RowKit Go.Proofs
noncomputable def lft:Code->Code|.seq a _=>a|c=>c
noncomputable def rgt:Code->Code|.seq _ b=>b|c=>c
noncomputable def bdy:Code->Code|.block _ c=>c|.loop c=>c|c=>c
noncomputable def body7:Code:=(Tryz.f7.body).getD .skip
noncomputable def dd (n:Nat):Code:=Nat.rec body7 (λ_ c=>rgt c) n
noncomputable def c0:=lft (dd 0)
noncomputable def c1:=lft (dd 1)
noncomputable def cA2:=lft (dd 2)
noncomputable def c4:=lft (dd 3)
noncomputable def cA5:=lft (dd 4)
noncomputable def c7:=lft (dd 5)
noncomputable def c8:=lft (lft (dd 6))
noncomputable def cL:=bdy (bdy (rgt (lft (dd 6))))
noncomputable def c9:=lft cL
noncomputable def cB:=lft (rgt (rgt cL))
noncomputable def c10:=lft (bdy cB)
noncomputable def c11:=rgt (bdy cB)
noncomputable def c12:=rgt (rgt (rgt cL))
noncomputable def c13:=lft (dd 7)
noncomputable def opsOf:Code->Array Oper|.region _ o _=>o|_=>#[]
def aeu:Tryz.f7.body=some (.seq c0 (.seq c1 (.seq cA2 (.seq c4 (.seq cA5 (.seq c7 (.seq (.seq c8 (.block 0 (.loop (.seq c9 (.seq (.cond (.tmp 36) .skip (.exit 0)) (.seq (.block 1 (.seq c10 c11)) c12)))))) (.seq c13 .ret)))))))):=by kernel_rfl
def aT:List V:=[M [b 109,b 97,b 105,b 110,b 32,b 61,b 32,b 112,b 114,b 105,b 110,b 116,b 32,b 49,b 10]]
def rT:V:=U [S [109,97,105,110,58,32,73,79,32,85,110,105,116,10],A [j 0,j 0],j 0]
noncomputable abbrev vc (c:Code):aN:=aX Tryz.prog vZ 7 c
noncomputable def y69:En:=(8,[M [b 109,b 97,b 105,b 110,b 32,b 61,b 32,b 112,b 114,b 105,b 110,b 116,b 32,b 49,b 10]],U [A [.aj,L [A [S [109,97,105,110],j 5,S [],j 0,.aj,M [A [j 2,S [112,114,105,110,116],j 0,.aj,.aj],A [j 1,S [],j 1,.aj,.aj]]]]],A [j 0,j 0],j 0])
noncomputable def y54:En:=(15,[A [.aj,L [A [S [109,97,105,110],j 5,S [],j 0,.aj,M [A [j 2,S [112,114,105,110,116],j 0,.aj,.aj],A [j 1,S [],j 1,.aj,.aj]]]]]],U [L [A [S [109,97,105,110],.aj,S [73,79],j 0,L [A [S [85,110,105,116],j 0,.aj]]]],j (-1),j 0])
noncomputable def y55:En:=(17,[A [S [73,79],j 0,L [A [S [85,110,105,116],j 0,.aj]]]],S [73,79,32,85,110,105,116])
noncomputable def lB:List En:=[y69,y54,y55]
def aEv:en 69=y69:=by kernel_rfl
def aEr:en 54=y54:=by kernel_rfl
def aEt:en 55=y55:=by kernel_rfl
def allB:uZ lB:=⟨(show AnE y69 from aEv▸ok (by decide)),(show AnE y54 from aEr▸ok (by decide)),(show AnE y55 from aEt▸ok (by decide)),trivial⟩
noncomputable def ihB:Ih:=runM (mOf lB) fns 1000
def Nr:Rz Tryz.prog vZ ihB:=pY (ac8 allB) _
noncomputable def tC:Out->List V:=Out.rec [] (λf _ _=>f) (λ_ f _ _=>f) (λ_ _=>[])
noncomputable def DZ:Out->Lo:=Out.rec [] (λ_ l _=>l) (λ_ _ l _=>l) (λ_ _=>[])
noncomputable def zA:Out->H:=Out.rec emp (λ_ _ h=>h) (λ_ _ _ h=>h) (λ_ h=>h)
noncomputable def I5:Out->Bool:=Out.rec false (λ_ _ _=>true) (λ_ _ _ _=>false) (λ_ _=>false)
def yL{o:Out}(h:I5 o=true):o=.norm (tC o) (DZ o) (zA o):=by cases o<;>first|rfl|cases h
noncomputable def o0:Out:=ihB (.code (vc c0)) (pad 52 aT) [] emp
def aDN:I5 o0=true:=by decide +kernel
noncomputable def o1:Out:=ihB (.code (vc c1)) (tC o0) (DZ o0) (zA o0)
def aDO:I5 o1=true:=by decide +kernel
noncomputable def o2:Out:=ihB (.code (vc cA2)) (tC o1) (DZ o1) (zA o1)
def aDP:I5 o2=true:=by decide +kernel
noncomputable def o4:Out:=ihB (.code (vc c4)) (tC o2) (DZ o2) (zA o2)
def aDQ:I5 o4=true:=by decide +kernel
noncomputable def oP:Out:=ihB (.code (vc cA5)) (tC o4) (DZ o4) (zA o4)
def aDW:I5 oP=true:=by decide +kernel
def aDV:(zA oP).next=0:=by decide +kernel
def awX:(tC oP).length=52:=by decide +kernel
noncomputable def v8:V:=aA (tC oP) 8
def aEp:(match v8 with|.aY _ _=>false|_=>true)=true:=by kernel_rfl
def aAb:dA (DZ oP) 3=some [.int .i64 0,.int .i64 0]:=by kernel_rfl
def aDU:aA (tC oP) 3=.aY 3 0:=by kernel_rfl
end
end Go.Vx.Tab
namespace Go.Vx
section
variable {P:Program}{Hn H2:Hints}{comp:FuncId->Code->aN}{g g' g'':G}{σ σ' sJ:H}{w w' w'':World}{β β' β'':Nat->Option Nat}{lo lo':Lo}{fr fr' F F':List V}{A A':Act}{B0:Nat}{ro:Option Nat}
def ayo(P:Program)(o:Oper):Prop:=∀(a:Act) (w:World) (d:Deferred) (w':World),(execOp a.eval o).run P w≠.ok (.defer d) w'
theorem aav{s:Sem Value}{d:Deferred}:((do pure (.value (<- s)):Sem Next).run P w)≠.ok (.defer d) w':=by
 rw[aH];cases s.run P w with
 |ok x w1=>intro h;cases h
 |halt x w1=>intro h;cases h
theorem aAt{s:Sem Unit}{d:Deferred}:((do s;pure .skip:Sem Next).run P w)≠.ok (.defer d) w':=by
 rw[aH];cases s.run P w with
 |ok x w1=>intro h;cases h
 |halt x w1=>intro h;cases h
theorem Ti{o:Oper}{c:Call}{f:FuncId}(ho:o.op=.call c)(hc:c.callee=.value (.func f))(a:Act):(execOp a.eval o).run P w=(callFunc f (c.args.map a.eval)).run P w:=by
 simp only[execOp,ho,resolve,hc,Act.eval,Deferred.ofValue];rw[aH];simp only[Sem.run_pure,Result.andThen,invoke,Array.append_empty,Array.empty_append]
 try rfl
def ah7(P:Program)(o:Oper):Bool:=match o.op with
 |.move _|.assign _|.alloc _|.load _ _|.store _ _ _|.binOp _ _ _ _ _|.fieldAddr _ _ _|.indexAddr _ _ _|.build _ _|.extract _ _=>true
 |.call c=>match c.callee with
  |.builtin .len=>true
  |.value (.func f)=>match P.funcs[f]? with
   |some fn=>fn.body.isSome&&fn.name != "runtime.NumGoroutine"
   |none=>false
  |_=>false
 |_=>false
theorem afj{o:Oper}(h:ah7 P o=true):ayo P o:=by
 intro a w d w' e;unfold ah7 at h
 split at h
 all_goals first
  |(rename_i x ho;simp only[execOp,ho]at e;exact aav e)
  |(rename_i x y ho;simp only[execOp,ho]at e;exact aav e)
  |(rename_i x y z ho;simp only[execOp,ho]at e;exact aav e)
  |(rename_i x y z ho;simp only[execOp,ho]at e;exact aAt e)
  |(rename_i x y z u v ho;simp only[execOp,ho]at e;exact aav e)
  |(rename_i x ho;simp only[execOp,ho,Sem.run_pure]at e;cases e)
  |cases h
  |skip
 rename_i c ho
 split at h
 .rename_i hc;simp only[execOp,ho,resolve,hc]at e;rw[aH]at e;simp only[Sem.run_pure,Result.andThen,invoke,builtin]at e;exact aav e
 .rename_i f hc
  split at h
  .rename_i fn hf;simp only[ah,bne_iff_ne,ne_eq]at h;obtain⟨b,hb⟩:=Option.isSome_iff_exists.1 h.1;rw[Ti ho hc,vT hf hb h.2]at e;cases e
  .cases h
 .cases h
theorem Uh{F:Fence}{n:Nat}{o:Oper}{K:Act->World->Prop}{Q:Exit->Act->World->Prop}(hd:ayo P o)(hnd:∀c,o.op≠.defer c)(h:o.wpIn F n P A w K Q):o.wpIn F n P A w (λa' w'=>K a' w'/\a'.defers=A.defers) Q:=by
 unfold Oper.wpIn at *;refine⟨h.1,?_⟩;have hh:=h.2;have hse:(o.semAt F.round A.eval)=execOp A.eval o:=Oper.semAt_eq _ _ _ hnd;rw[hse]at hh|-;have hn:=hd A w;generalize (execOp A.eval o).run P w=r at *;cases r with
 |ok x w' =>
  cases x<;>simp only[Oper.uponIn]at hh|- <;>
   first
    |exact⟨hh,put_defers _ _ _⟩
    |exact absurd rfl (hn _ _)
    |exact⟨hh.1,CallsIn.mono hh.2 (λe w'' he=>by cases e<;>first|exact⟨he,put_defers _ _ _⟩|exact he)⟩
    |exact⟨hh.1,RowsIn.mono hh.2 (λ_ _ he=>⟨he,put_defers _ _ _⟩)⟩
    |exact⟨hh.1,RoundIn.mono hh.2 (λe w'' he=>by cases e<;>first|exact⟨he,put_defers _ _ _⟩|exact he)⟩
 |halt x w'=>cases x<;>simp only[Oper.uponIn]at hh|-<;>exact hh
def BN(P:Program)(ops:Array Oper):Bool:=ops.all λo=>ah7 P o
theorem Ug{ops:Array Oper}(h:BN P ops=true){i:Nat}{o:Oper}(ho:ops[i]?=some o):ah7 P o=true:=by
 unfold BN at h;rw[Array.all_eq_true]at h;obtain⟨hi,rfl⟩:=eY.1 ho;exact h i hi
theorem afo{o:Oper}(h:ah7 P o=true):∀c,o.op≠.defer c:=by
 intro c hc;unfold ah7 at h;rw[hc]at h;cases h
theorem abf{F:Fence}{n:Nat}{ops:Array Oper}{i:Nat}{K:Act->World->Prop}{Q:Exit->Act->World->Prop}(hok:BN P ops=true)(h:wpOpIn F n P ops Q i K A w):wpOpIn F n P ops Q i (λa' w'=>K a' w'/\a'.defers=A.defers) A w:=by
 unfold wpOpIn at *
 split
 .rename_i ho;rw[ho]at h;exact⟨h,rfl⟩
 .rename_i o ho;rw[ho]at h;have hk:=Ug hok ho;simp only at h
  split
  .rename_i hw;rw[if_pos hw]at h;exact Uh (afj hk) (afo hk) h
  .rename_i hw;rw[if_neg hw]at h;exact⟨h.1,h.2,put_defers _ _ _⟩
theorem aac{F:Fence}{n:Nat}{o:Oper}{K K':Act->World->Prop}{Q Q':Exit->Act->World->Prop}(hK:∀a w,K a w->K' a w)(hQ:∀e a w,e≠.normal->Q e a w->Q' e a w)(h:o.wpIn F n P A w K Q):o.wpIn F n P A w K' Q':=by
 unfold Oper.wpIn at *;refine⟨h.1,?_⟩;have h2:=h.2;generalize (o.semAt F.round A.eval).run P w=r at h2;cases r with
 |halt x w =>
  cases x<;>simp only[Oper.uponIn]at h2|-;exact hQ _ _ _ (by simp) h2
 |ok x w =>
  cases x<;>simp only[Oper.uponIn]at h2|-
  case value v=>exact hK _ _ h2
  case skip=>exact hK _ _ h2
  case defer d=>exact hK _ _ h2
  case enter f args =>
   refine⟨h2.1,CallsIn.mono h2.2 λe w' he=>?_⟩;cases e with
   |returned v=>exact hK _ _ he
   |panicked c=>exact hQ _ _ _ (by simp) he
   |outgrown=>obtain⟨a₀,w₀,hq⟩:=he;exact⟨a₀,w₀,hQ _ _ _ (by simp) hq⟩
  case row r args=>exact⟨h2.1,RowsIn.mono h2.2 λv w' he=>hK _ _ he⟩
  case round l f t a b =>
   refine⟨h2.1,RoundIn.mono h2.2 λe w' he=>?_⟩;cases e with
   |returned v=>exact hK _ _ he
   |panicked c=>exact hQ _ _ _ (by simp) he
   |outgrown=>obtain⟨a₀,w₀,hq⟩:=he;exact⟨a₀,w₀,hQ _ _ _ (by simp) hq⟩
theorem XH{F:Fence}{n:Nat}{ops:Array Oper}{Q:Exit->Act->World->Prop}{D:List Deferred}(hok:BN P ops=true):∀(l:List Nat) (A:Act) (w:World),A.defers=D->wpOpsIn F n P ops Q l A w->wpOpsIn F n P ops (λe a' w'=>Q e a' w'/\(e=.normal->a'.defers=D)) l A w:=by
 intro l
 induction l with
 |nil=>intro A w hd h;exact⟨h,λ_=>hd⟩
 |cons i l ih =>
  intro A w hd h;simp only[wpOpsIn]at h|-;cases ho:ops[i]? with
  |none=>rw[ho]at h;exact ih _ _ hd h
  |some o =>
   rw[ho]at h;have hk:=Ug hok ho;dsimp only at h|-
   split
   .rename_i hw;rw[if_pos hw]at h;exact aac (λa v hq=>ih a v (hq.2.trans hd) hq.1) (λe a v he hq=>⟨hq,λh=>absurd h he⟩) (Uh (afj hk) (afo hk) h)
   .rename_i hw;rw[if_neg hw]at h;exact⟨h.1,ih _ _ ((put_defers _ _ _).trans hd) h.2⟩
theorem Xd{ih:Ih}(h0:Rz P Hn ih){f id:Nat}{ops:Array Oper}{fr:List V}{lo:Lo}{σ:H}{o:Out}{D:List Deferred}{Q:Exit->Act->World->Prop}(ho:o=ih (.ops (ops.toList.map (ig P Hn f ops))) fr lo σ)(hn:o=.norm fr' lo' σ')(hok:BN P ops=true)(hD:A.defers=D)(hsc:Sc P (aX P Hn) B0 g β σ lo fr A w)
  (hk:∀g' β' A' w',Sc P (aX P Hn) B0 g' β' σ' lo' fr' A' w'->Stp g β σ w g' β' σ' w'->A'.defers=D->Q .normal A' w'):(Code.region id ops false).wpIn (Fw none) 0 P Q A w:=by
 have h1:=h0.ops (ops.toList.map (ig P Hn f ops)) fr lo σ f ops 0 none B0 g β A w (by simp) (by simp) hsc (by rw[<- ho,hn];simp);rw[<- ho,hn]at h1;have h2:=XH hok _ _ _ hD h1;refine wpIn_mono (wpIn_region (by simpa[List.range_eq_range']using h2)) λe a v hp=>?_;obtain⟨⟨mP,lo1,σ1,hout,g1,β1,hs1,hst⟩,hd⟩:=hp;rcases hout with⟨ho,rfl⟩|⟨j,ho,_⟩
 .cases ho;exact hk _ _ _ _ hs1 hst (hd rfl)
 .cases ho
theorem zk{ih:Ih}(h0:Rz P Hn ih){f:Nat}{c:Code}{fr:List V}{lo:Lo}{σ:H}{o:Out}{Q:Exit->Act->World->Prop}(ho:o=ih (.code (aX P Hn f c)) fr lo σ)(hn:o=.norm fr' lo' σ')(hsc:Sc P (aX P Hn) B0 g β σ lo fr A w)
  (hk:∀g' β' A' w',Sc P (aX P Hn) B0 g' β' σ' lo' fr' A' w'->Stp g β σ w g' β' σ' w'->Q .normal A' w'):c.wpIn (Fw none) 0 P Q A w:=by
 have h1:=h0.code (aX P Hn f c) fr lo σ f c none B0 g β A w rfl (by simp) hsc (by rw[<- ho,hn];simp);rw[<- ho,hn]at h1;refine wpIn_mono h1 λe a v hp=>?_;obtain⟨mP,lo1,σ1,hout,g1,β1,hs1,hst⟩:=hp;rcases hout with⟨ho,rfl⟩|⟨j,ho,_⟩
 .cases ho;exact hk _ _ _ _ hs1 hst
 .cases ho
end
section
variable {P:Program}{Hn H2:Hints}{comp:FuncId->Code->aN}{g g' g'':G}{σ σ' sJ:H}{w w' w'':World}{β β' β'':Nat->Option Nat}{lo lo':Lo}{fr fr' F F':List V}{A A':Act}{B0:Nat}{ro:Option Nat}
variable {ops:Array Oper}{ins:Nat->Ins}{cls ms:Nat->Nat}{f:Nat}{listed:Array Bool}{win born todo:List Nat}{Gr:List V}{pb:Nat->Nat}{g0:G}{β0:Nat->Option Nat}{σ0:H}{w0:World}
variable {ih:Ih}{out:Out}{rest:List jh}{nO b0 lG:List Nat}{eff:Option Nat}{e:Nat}
def Wj(r:List jh):Bool:=match r with
 |[c]=>zD c.chk&&zD c.pre&&zD c.nO&&Yu c.eff none
 |_=>false
def EJ(e:Nat):List jh->Bool
 |[]=>true
 |s::r=>(!(Yu s.eff (some e))||Wj r)&&EJ e r
def LaI(e:Nat)(eff:Option Nat)(rest:List jh):Prop:=(eff=some e->Wj rest=true)/\EJ e rest=true
theorem ahP{r:List jh}(h:Wj r=true):r=[⟨[],[],[],none⟩]:=by
 unfold Wj at h
 split at h
 .rename_i c;simp only[ah]at h;obtain⟨⟨⟨h1,h2⟩,h3⟩,h4⟩:=h;obtain⟨c1,c2,c3,c4⟩:=c;dsimp only at h1 h2 h3 h4;rw[qh h1,qh h2,qh h3,Vp h4]
 .cases h
theorem LaI.next{s:jh}(h:LaI e eff (s::rest)):LaI e s.eff rest:=by
 have h2:=h.2;simp only[EJ,ah,gQ,fQ]at h2;refine⟨λhe=>?_,h2.2⟩;rcases h2.1 with h3|h3
 .rw[he]at h3;simp[Yu]at h3
 .exact h3
structure LaF (P:Program)(ops:Array Oper)(ins:Nat->Ins)(cls ms:Nat->Nat)(e:Nat):Prop where
 lt:e<ops.size
 c:cls e=2
 all:∀i,i<ops.size->i≠e->(ms e).testBit i=true
 no3:∀i,cls i≠3
 mask:∀o j,ops[e]?=some o->(ms e).testBit j=true->∃d∈o.after,Region.binds .any d=true/\(d.on=j\/(ms d.on).testBit j=true)
 ins:ins e=.op none (.mv (.const (.bool true)))
theorem apA{Q:Exit->Act->World->Prop}{fuel:Nat}(hl:listed.size=ops.size)(hall:∀i,i<ops.size->done listed i)(hq:Q .normal A w):wpAnyIn (Fw ro) 0 P .any ops Q fuel listed A w:=by
 have hnil:Region.ready .any ops listed=[]:=by
  refine List.eq_nil_iff_forall_not_mem.2 λj hj=>?_;obtain⟨h0,o,ho,_⟩:=mem_ready.1 hj;have:=hall j (eY.1 ho).1;unfold done at this;rw[h0]at this;cases this
 cases fuel with
 |zero=>exact⟨hnil,hq⟩
 |succ n=>exact⟨λ_=>hq,λj hj=>by rw[hnil]at hj;cases hj⟩
theorem ahU{Q:Exit->Act->World->Prop}{D:List Deferred}(hok:BN P ops=true)(hout:out≠.fail)(hm:LC P Hn H2 ops ro ih)(hs:Stat P H2 f ops ins cls ms (λj=>j=e))(hf:LaF P ops ins cls ms e)
  (hlast:∀(g:G) (β:Nat->Option Nat) (lo:Lo) (σ:H) (Gr:List V) (A:Act) (w:World) (K:Act->World->Prop),out=.norm Gr lo σ->Sc P (aX P Hn) B0 g β σ lo Gr A w->Stp g0 β0 σ0 w0 g β σ w->A.defers=D->(∀A' w',Q .normal A' w'->K A' w')->wpOpIn (Fw ro) 0 P ops Q e K A w) :
  ∀(fuel:Nat) {rest:List jh} {win nO:List Nat} {eff:Option Nat} {b0 lG:List Nat} {lo:Lo} {σ:H} {Gr:List V} {listed:Array Bool} {A:Act} {w:World} {g:G} {β:Nat->Option Nat} {F:List V} {pb:Nat->Nat},
  (qZ ops listed).length<=fuel->¬done listed e->Mid P Hn ops ins cls ms B0 g0 β0 σ0 w0 ih out rest win nO eff b0 lG lo σ Gr listed A w g β F pb->LaI e eff rest->A.defers=D ->
  wpAnyIn (Fw ro) 0 P .any ops Q fuel listed A w:=by
 intro fuel
 induction fuel with
 |zero =>
  intro rest win nO eff b0 lG lo σ Gr listed A w g β F pb hle hne hi hla hD;have:e∈qZ ops listed:=fZ.2 ⟨dh.2 hf.lt,by simpa using hne⟩;have:=List.length_pos_of_mem this;omega
 |succ fuel ihf =>
  intro rest win nO eff b0 lG lo σ Gr listed A w g β F pb hle hne hi hla hD;refine⟨λhnil=>absurd (ready_nil hi.inv.core.size hs.awu hnil e hf.lt) hne,λj hj=>?_⟩;have hw:j=e->∀i,(ms j).testBit i=true->i<ops.size/\done listed i:=by
   rintro rfl i hb
   obtain⟨h0,o,ho,hall⟩:=mem_ready.1 hj;obtain⟨d,hd,hbd,hcase⟩:=hf.mask o i ho hb;have hdd:=hall d hd hbd;have hlt:d.on<listed.size:=by
    by_cases hq:d.on<listed.size
    .exact hq
    .simp[Array.getD,hq]at hdd
   have hdone:done listed d.on:=by
    unfold done;simp only[Array.getD,hlt,dif_pos]at hdd|-;exact hdd
   rcases hcase with rfl|h
   .exact⟨by have:=hi.inv.core.size;omega,hdone⟩
   .exact hi.inv.core.closed d.on (by have:=hi.inv.core.size;omega) hdone i h
  obtain⟨h1,h2,h3⟩:=kS hs hw hi.inv.core.size hi.inv.core.closed hj;by_cases hje:j=e
  .subst hje;have hall:∀i,i<ops.size->i≠j->done listed i:=λi hi1 hi2=>(h3 i (hf.all i hi1 hi2)).2;have hjt:=hi.inv.MQ j hf.lt hf.c hne;have heff:eff=some j:=by
    cases he:eff with
    |none=>have:=hi.cur.last he;rw[he,this]at hjt;simp[kD]at hjt
    |some e' =>
     by_cases hq:e'=j
     .rw[hq]
     .have:=hi.inv.Fg e' (by simp[he]);exact absurd (hall e' this.1 hq) this.2.2
   have avQ:nO=[]:=by
    cases nO with
    |nil=>rfl
    |cons a l=>exact absurd (hi.cur.ajB a (by simp)).1 (hf.no3 a)
   have hrest:=ahP (hla.1 heff);subst heff avQ hrest;have hrun:fG ih [ins j] Gr lo σ=out:=hi.run;rw[hf.ins]at hrun;have Y2:out=.norm Gr lo σ:=hrun.symm;have hF:F=Gr:=OZ hi.inv.core.len λt=>by
    rcases hi.inv.core.agr t with h|⟨k,hk,hck,hnd,_⟩|⟨a,ha,hca,_,_⟩
    .exact h
    .exact absurd (hall k hk (by rintro rfl;have:=hf.c;omega)) hnd
    .exact absurd hca (hf.no3 a)
   subst hF;refine hlast g β lo σ F A w _ Y2 hi.inv.core.sc hi.inv.core.stp hD λA' w' hq=>?_;refine apA (by simp[hi.inv.core.size]) (λi hi1=>?_) hq;by_cases hij:i=j
   .exact dM.2 (.inr hij.symm)
   .exact dM.2 (.inl (hall i hi1 hij))
  .have hlt:(qZ ops (listed.setIfInBounds j true)).length<=fuel:=by have:=Iq h1 h2;omega
   have hne':¬done (listed.setIfInBounds j true) e:=λh=>by
    rcases dM.1 h with h|h
    .exact hne h
    .exact hje h
   have hcov:∀i,i<ops.size->cls i<2->¬done (listed.setIfInBounds j true) i->i∈win\/i∈uH rest:=λi k1 k2 k3=>hi.cov i k1 k2 λh=>k3 (dM.2 (.inl h));have fin:∀{K:Act->World->Prop},wpOpIn (Fw ro) 0 P ops Q j (λA' w'=>A'.defers=D->K A' w') A w->wpOpIn (Fw ro) 0 P ops Q j K A w:=λh=>wpOpIn_mono (λa v hq=>hq.1 (hq.2.trans hD)) (abf hok h);refine fin ?_;rcases hs.cl3 j with hc|hc|hc
   .exact ad4 hm hs hi.inv hje hj hc λA' w' g' β' F' hi' hD'=>ihf hlt hne' ⟨hi',hcov,hi.cur,hi.ok,hi.run⟩ hla hD'
   .refine ad3 hout hm hs hi (λh=>absurd h hje) (λo h=>hs.TB j o hje h) hj hc λA' w' g' β' F' s rest' aeb b0' OU lo' σ' DV hrs hi' hD'=>ihf hlt hne' hi' ?_ hD';subst hrs;exact hla.next
   .exact absurd hc (hf.no3 j)
def insL(P:Program)(Hn:Hints)(f:Nat)(ops:Array Oper)(e:Nat):Nat->Ins:=λi=>bif Nat.beq i e then .op none (.mv (.const (.bool true)))else insOf P (iI Hn) f ops i
theorem abM{D:List Deferred}(Pz:P.follows .mixedOrders=true)(hidle:∀q∈Hn.idle,A8 P q){ih:Ih}(h0:Rz P Hn ih){f id:Nat}{ops:Array Oper}{l:List jh}{e:Nat}{fr:List V}{lo:Lo}{σ:H}{w:World}{g:G}{β:Nat->Option Nat}{A:Act}{B0:Nat}{ro:Option Nat}{Q:Exit->Act->World->Prop}
  (hd:Em (insL P Hn f ops e) (kP P (iI Hn) f ops) (C9 ops) ops.size l=true) (hlow:qU ops.toList 0=true) (hl:l≠[]) (hla:EJ e l=true)
  (hlt:e<ops.size) (hc:kP P (iI Hn) f ops e=2) (hall:∀i,i<ops.size->i≠e->(C9 ops e).testBit i=true) (av2:∀i,i<ops.size->kP P (iI Hn) f ops i≠3)
  (hro:ro.isSome=true->Di ops=true) (hsc:Sc P (aX P Hn) B0 g β σ lo fr A w) (aCn:BN P ops=true) (hD:A.defers=D)
  (hout:fG ih (flatten (insL P Hn f ops e) l) fr lo σ≠.fail)
  (hlast:∀(g':G) (β':Nat->Option Nat) (lo':Lo) (σ':H) (Gr:List V) (A':Act) (w':World) (K:Act->World->Prop),fG ih (flatten (insL P Hn f ops e) l) fr lo σ=.norm Gr lo' σ'->Sc P (aX P Hn) B0 g' β' σ' lo' Gr A' w'->Stp g β σ w g' β' σ' w'->A'.defers=D->(∀A'' w'',Q .normal A'' w''->K A'' w'')->wpOpIn (Fw ro) 0 P ops Q e K A' w') :
  (Code.region id ops true).wpIn (Fw ro) 0 P Q A w:=by
 have hf:=CQ hd;have hne:∀i,i≠e->insL P Hn f ops e i=insOf P (iI Hn) f ops i:=λi hi=>by unfold insL;rw[Iy hi];rfl
 have hee:insL P Hn f ops e e=.op none (.mv (.const (.bool true))):=by unfold insL;rw[abA];rfl
 have hget:∀i,i<ops.size->ops[i]?=some ops[i]!:=λi hi=>by simp[hi]
 have alp:∀i,kP P (iI Hn) f ops i≠3:=λi h=>av2 i (zi (by rw[h];decide)) h;have hs:Stat P (iI Hn) f ops (insL P Hn f ops e) (kP P (iI Hn) f ops) (C9 ops) (λj=>j=e):=by
  refine⟨λi o hi h=>by rw[hne i hi];exact I4 h,λi hi hci=>?_,λi hi hci=>absurd hci (alp i),λi=>?_,λi o j _ ho hb=>?_,λi j d hi hj hci hcj h1 h2=>?_,λe' i d he hi hce hci h1 h2=>?_,hf.reads,hf.loc,λi hci=>zi hci,λi o ho d hd hb=>?_⟩
  .have hie:i≠e:=by rintro rfl;omega
   rw[hne i hie];rw[xM (hget i hi)]at hci|-;exact Hz hci
  .by_cases hi:i<ops.size
   .have:=Ky (o:=ops[i]!) (i:=insOf P (iI Hn) f ops i);have:=alp i;rw[xM (hget i hi)]at this|-;omega
   .by_cases hci:kP P (iI Hn) f ops i=2
    .omega
    .exact absurd (zi hci) hi
  .obtain⟨d,hd,hbe,h⟩:=F9 (ops:=ops.toList) (by rw[qc];exact ho) hb;exact⟨d,Array.mem_toList_iff.1 hd,hbe,h⟩
  .refine IE hf.nodup i ?_ j ?_ h1 h2 (List.Pairwise.filter _ List.nodup_range)
   .exact fZ.2 ⟨dh.2 hi,KL hci⟩
   .exact fZ.2 ⟨dh.2 hj,KL hcj⟩
  .exact hf.avs d (jM.2 ⟨e',fZ.2 ⟨dh.2 he,by simpa using hce⟩,h1⟩) (jM.2 ⟨i,fZ.2 ⟨dh.2 hi,KL hci⟩,h2⟩)
  .have:=yK hlow i o (by rw[qc];exact ho) d hd hb;omega
 have aB8:LaF P ops (insL P Hn f ops e) (kP P (iI Hn) f ops) (C9 ops) e:=⟨hlt,hc,hall,alp,λo j ho hb=>by
  obtain⟨d,hd,hbe,h⟩:=F9 (ops:=ops.toList) (by rw[qc];exact ho) hb;exact⟨d,Array.mem_toList_iff.1 hd,hbe,h⟩,hee⟩
 refine wpIn_region_any Pz ?_;cases l with
 |nil=>exact absurd rfl hl
 |cons s rest =>
 obtain⟨hso,hok⟩:=kM hf.stages;have hnd:∀i,i<ops.size->¬done (Array.replicate ops.size false) i:=λi hi h=>by
  unfold done at h;simp[Array.getD,hi]at h
 have hnd':∀i,kP P (iI Hn) f ops i≠2->¬done (Array.replicate ops.size false) i:=λi hc=>hnd i (hs.OO i hc);have hcore:Core P Hn ops (insL P Hn f ops e) (kP P (iI Hn) f ops) (C9 ops) B0 g β σ w [] lo σ fr (Array.replicate ops.size false) A { w with drawn:=w.drawn+1 } g β fr (λ_=>0):=by
  refine⟨by simp,λj hj hd=>absurd hd (hnd j hj),hsc.drawn,.drawn,rfl,λt=>.inl rfl,λa ha=>by simp at ha,λa d z ha _ hd=>absurd hd (hnd a ha),λa a' ha _ _ _ hd=>absurd hd (hnd a ha)⟩
 have hout2:∀e∈kD (s::rest),e<ops.size:=λe he=>by
  simp only[kD,wG,dH]at he;rcases he with he|he
  .exact(hso.cur.GN e (by simpa[wH]using he)).2.1
  .exact(pz rest hok e he).2.1
 obtain⟨DV,k1,k2,k3⟩:=enter (n:=ops.size) (aL:=Ol _ ops.size) hout hs hso hok hcore rfl (λi hi=>by simp[vW]at hi) (λi hi=>by simp[vW]at hi) (λi hi=>hnd' i (by have:=(hso.pre i hi).1;omega))
  (λi h1 h2 _=>.inr (by rcases hf.cover i h1 with h|h|h<;>first|exact h.2|omega)) (λe he=>hnd e (hout2 e he)) (λe h1 h2 _=>by rcases hf.cover e h1 with h|h|h<;>first|exact h.2|omega) rfl
 have hli:LaI e s.eff rest:=LaI.next (eff:=none) ⟨λh=>(by cases h),hla⟩;refine ahU (H2:=iI Hn) (f:=f) (D:=D) aCn hout ⟨h0.call,h0.app,hidle,h0.loc,hro⟩ hs aB8 hlast ops.size ?_ (hnd e hlt) ⟨k1,k3,hso.cur,hok,k2⟩ hli hD;unfold qZ;exact lM (List.length_filter_le _ _) (by simp)
end
end Go.Vx
namespace Go.Vx.Tab
section
open Go Go.RowKit Go.Proofs
noncomputable def u52:List V:=pad 52 []
noncomputable def F7:List V:=lC (lC (lC u52 8 v8) 10 (.bg 0 0)) 3 (.bg 1 0)
noncomputable def σ7:H:=⟨2,.leaf⟩
noncomputable def agl (c:Code):Cmd:=.ops ((opsOf c).toList.map (ig Tryz.prog vZ 7 (opsOf c)))
def ayw:c8=.region 8 (opsOf c8) false:=by kernel_rfl
def atV:c9=.region 9 (opsOf c9) false:=by kernel_rfl
def avg:c10=.region 10 (opsOf c10) false:=by kernel_rfl
def avi:c12=.region 12 (opsOf c12) false:=by kernel_rfl
def kk8:BN Tryz.prog (opsOf c8)=true:=by decide +kernel
def kk9:BN Tryz.prog (opsOf c9)=true:=by decide +kernel
def aDp:BN Tryz.prog (opsOf c10)=true:=by decide +kernel
def aDq:BN Tryz.prog (opsOf c11)=true:=by decide +kernel
def aDr:BN Tryz.prog (opsOf c12)=true:=by decide +kernel
noncomputable def o8:Out:=ihB (agl c8) F7 [] σ7
def aDR:I5 o8=true:=by decide +kernel
noncomputable def o9:Out:=ihB (agl c9) (tC o8) (DZ o8) (zA o8)
def aDT:I5 o9=true:=by decide +kernel
def aDS:aA (tC o9) 36=.bool true:=by kernel_rfl
noncomputable def RG:Out:=ihB (agl c10) (tC o9) (DZ o9) (zA o9)
def az1:I5 RG=true:=by decide +kernel
noncomputable def DN:Array Oper:=opsOf c11
def avh:c11=.region 11 DN true:=by kernel_rfl
noncomputable abbrev av9:Nat->Ins:=insL Tryz.prog vZ 7 DN 9
noncomputable abbrev agw:Nat->Nat:=kP Tryz.prog (iI vZ) 7 DN
noncomputable def aii:List jh:=stages agw (C9 DN) DN.size ((List.range DN.size).filter λi=>agw i==2)
def aDZ:Em av9 agw (C9 DN) DN.size aii=true:=by decide +kernel
def aD0:qU DN.toList 0=true:=by decide +kernel
def aD1:aii.isEmpty=false:=by decide +kernel
def aD2:EJ 9 aii=true:=by decide +kernel
def aw6:DN.size=10:=by decide +kernel
def aD3:agw 9=2:=by decide +kernel
def aD4:((List.range 9).all λi=>(C9 DN 9).testBit i)=true:=by decide +kernel
def aD5:((List.range 10).all λi=>!(Nat.beq (agw i) 3))=true:=by decide +kernel
noncomputable def o11:Out:=fG ihB (flatten av9 aii) (tC RG) (DZ RG) (zA RG)
def az3:I5 o11=true:=by decide +kernel
noncomputable def strOf:V->List Nat|.str s=>s|_=>[]
def awU:aA (tC o11) 47=.str [109,97,105,110,58,32,73,79,32,85,110,105,116,10]:=by kernel_rfl
def awQ:aA (tC o11) 10=.bg 0 0:=by kernel_rfl
def az2:aA (tC o11) 3=.bg 1 0:=by kernel_rfl
def awR:aA (tC o11) 34=.int .i64 1:=by kernel_rfl
def awS:aA (tC o11) 35=.int .i64 0:=by kernel_rfl
def Uf:(tC o11).length=52:=by decide +kernel
noncomputable def F8:List V:=lC (lC (lC (lC u52 34 (.int .i64 1)) 35 (.int .i64 0)) 10 (.bg 0 0)) 3 (.bg 1 0)
noncomputable def o12:Out:=ihB (agl c12) F8 [] σ7
def az5:I5 o12=true:=by decide +kernel
noncomputable def o13:Out:=ihB (agl c9) (tC o12) (DZ o12) (zA o12)
def az9:I5 o13=true:=by decide +kernel
def az7:aA (tC o13) 36=.bool false:=by kernel_rfl
def awW:aA (tC o13) 10=.bg 0 0:=by kernel_rfl
def az6:aA (tC o13) 3=.bg 1 0:=by kernel_rfl
def az8:(tC o13).length=52:=by decide +kernel
noncomputable def Me:Array Oper:=opsOf c13
def avj:c13=.region 13 Me false:=by kernel_rfl
def p13:Me.size=5:=by decide +kernel
noncomputable def F14:List V:=lC (lC u52 50 (.str [109,97,105,110,58,32,73,79,32,85,110,105,116,10])) 3 (.aY 3 0)
noncomputable def arw:Lo:=[(3,[.int .i64 0,.int .i64 0])]
noncomputable def o14:Out:=ihB (.ops ((Me.toList.drop 1).map (ig Tryz.prog vZ 7 Me))) F14 arw σ7
def auy:I5 o14=true:=by decide +kernel
noncomputable def aAl:List (Nat×Bool×Bool×Nat):=[(2,false,false,0),(3,true,true,2),(4,false,false,0)]
def asi:Tryz.f7.results.toList.mapM (agm Tryz.prog)=some aAl:=by kernel_rfl
def aAa:resV (tC o14) (DZ o14) (zA o14) aAl=some [S [109,97,105,110,58,32,73,79,32,85,110,105,116,10],A [j 0,j 0],j 0]:=by kernel_rfl
end
end Go.Vx.Tab
namespace Go.Vx
section
open Go Go.RowKit Go.Proofs
variable {P:Program}{Hn H2:Hints}{comp:FuncId->Code->aN}{g g' g'' g0:G}{σ σ' sJ:H}{w w' w'' w0:World}{β β' β'':Nat->Option Nat}{lo lo':Lo}{fr fr' F F':List V}{A A':Act}{B0 b b3:Nat}{ro:Option Nat}{T:Array Value}
def rr(b b3:Nat):Nat->Option (Nat×Nat):=λi=>if i=0 then some (b,2)else if i=1 then some (b3,2)else none
def rg(b b3:Nat)(g:G):G:={ g with ρ:=rr b b3 }
theorem P6(i n:Nat):(⟨n,.leaf⟩:H).get i=none:=rfl
theorem BF{n x:Nat}:¬Live g ⟨n,.leaf⟩ x:=by rintro ⟨i,m,h,_⟩;rw[P6]at h;cases h
theorem Rw.base{γ:G}(hf:∀x o v,γ.φ x o=some v->w.cell? ⟨x,o,none⟩=some v)(hb:b<w.heap.size)(hb3:b3<w.heap.size):Rw P comp (rg b b3 γ) ⟨2,.leaf⟩ w:=by
 refine⟨hf,λi ob h=>?_,λi j b n m h=>?_,λi hi=>⟨?_,rfl⟩,λi c n h=>?_⟩
 .rw[P6]at h;cases h
 .rw[P6]at h;cases h
 .have hi:2<=i:=hi;show rr b b3 i=none;simp only[rr];rw[if_neg (by omega),if_neg (by omega)]
 .have h:rr b b3 i=some (c,n):=h;simp only[rr]at h
  split at h
  .cases h;exact hb
  .split at h
   .cases h;exact hb3
   .cases h
theorem Rb.amD:Rb g σ (λ_=>none) lo w:=⟨λt b e=>(by cases e),λt b e=>(by cases e),λt u b e=>(by cases e)⟩
theorem Ap.ad7(n:Nat)(h:T.size=n):Ap g β (pad n []) T:=by
 refine⟨by rw[Ia];simp[h],λt v x hv _=>?_⟩;rcases afw n [] t v hv with hv|⟨_,rfl⟩
 .simp at hv
 .exact .dK (.undef _)
theorem Ap.WZ(h:Ap g β F T)(t:Nat){v:V}(hv:∀x,T[t]?=some x->Rs g β v x):Ap g β (lC F t v) T:=by
 refine⟨by rw[iP];exact h.size,λu y x hy hx=>?_⟩;have hlt:u<F.length:=by have:=(fB.1 hy).1;rwa[iP]at this
 have e:Vx.aA (lC F t v) u=y:=by rw[tY,hy];rfl
 rw[dQ]at e
 split at e
 .rename_i hh;obtain⟨rfl,_⟩:=hh;subst e;exact hv x hx
 .refine h.slots u y x ?_ hx;rw[tY]at e;rw[bV hlt]at e|-;simpa using e
theorem Ap.at(h:Ap g β F T){t:Nat}{x:Value}(hx:T[t]?=some x):Rs g β (Vx.aA F t) x:=by
 have hlt:t<F.length:=by rw[h.size];exact(eY.1 hx).1
 have:=h.slots t (Vx.aA F t) x (by rw[tY,bV hlt];rfl) hx;exact this
theorem cell_lt{a:Nat}{o:Nat}{v:Value}(h:w.cell? ⟨a,o,none⟩=some v):a<w.heap.size:=by
 rcases dP a w.heap.size with h'|h'
 .exact h'
 .simp[World.cell?,Array.getElem?_eq_none h']at h
theorem agn{a:Nat}{o:Nat}(h:w'.heap[a]?=w.heap[a]?):w'.cell? ⟨a,o,none⟩=w.cell? ⟨a,o,none⟩:=by
 simp only[World.cell?,h]
theorem ads(hw:Rw P comp g σ w){k o:Nat}(hk:w.heap.size<=k):g.φ k o=none:=hw.pW hk o
theorem anh(hw0:Rw P comp g0 emp w0)(t:Stp g0 (λ_=>none) emp w0 g β σ w)(hs:Sc P comp B0 g β σ lo fr A w)(hbl:Below b w w')(hb:w0.heap.size<=b)(hb':b<w'.heap.size)(hb3:b3<b) :
  Rw P comp (rg b b3 g0) ⟨2,.leaf⟩ w'/\Stp g0 (λ_=>none) emp w0 (rg b b3 g0) (λ_=>none) ⟨2,.leaf⟩ w':=by
 refine⟨Rw.base (λx o v h=>?_) hb' (by omega),⟨⟨λi x h=>?_,λ_ _ _ h=>h,λ_=>.rfl⟩,⟨hbl.os.trans t.qg.os,hbl.tape.trans t.qg.tape,hbl.output.trans t.qg.output,lM t.qg.size hbl.size,λk hk hl hx hp=>?_⟩,λx h _=>absurd h BF,λt b e=>(by cases e),λx _ hp _=>hp⟩⟩
 .have h1:=cell_lt (hw0.frozen x o v h);rw[agn (hbl.block x (by omega))];exact hs.s.w.frozen x o v (t.le.φ x o v h)
 .rw[(hw0.fresh i (eX _)).1]at h;cases h
 .exact(hbl.block k (by omega)).trans (t.qg.block k hk hl hx hp)
theorem Df.low(hbl:Below b w w'):∀{D:List Deferred},(∀d∈D,∀r,d.target=.collected r->r<b)->Df P B0 w D->Df P B0 w' D
 |[],_,_=>trivial
 |d::ds,hr,h=>by
  refine⟨?_,Df.low (D:=ds) hbl (λd hd=>hr d (bW _ hd)) h.2⟩;rcases h.1 with⟨r,h0,h1,h2,h3⟩|h1
  .exact .inl ⟨r,h0,h1,(hbl.block r (hr d bZ r h1)).trans h2,h3⟩
  .exact .inr h1
theorem Df.ltB:∀{D:List Deferred},Df P B0 w D->∀d∈D,∀r,d.target=.collected r->r<w.heap.size
 |[],_,d,hd,_,_=>by cases hd
 |d'::ds,h,d,hd,r,hr=>by
  rcases bU.1 hd with rfl|hd
  .rcases h.1 with⟨r',h0,h1,h2,h3⟩|⟨f,cap,h1,_⟩
   .rw[h1]at hr;cases hr;exact(eY.1 h2).1
   .rw[h1]at hr;cases hr
  .exact Df.ltB h.2 d hd r hr
end
end Go.Vx
section
open Go Go.RowKit Go.Proofs
namespace Go.Vx
variable {P:Program}{Hn H2:Hints}{comp:FuncId->Code->aN}{g g' g'' g0:G}{σ σ' sJ:H}{w w' w'' w0:World}{β β' β'':Nat->Option Nat}{lo lo':Lo}{fr fr' F F':List V}{A A':Act}{B0 b b3:Nat}{ro:Option Nat}{T:Array Value}
theorem UY{ops:Array Oper}{i f:Nat}{o:Oper}{c:Call}{fn:Func}{bd:Code}{Q:Exit->Act->World->Prop}{K:Act->World->Prop}(ho:ops[i]?=some o)(hg:o.guard=none)(hop:o.op=.call c)(hc:c.callee=.value (.func f))(hfn:P.funcs[f]?=some fn)(hb:fn.body=some bd)(hname:fn.name≠ "runtime.NumGoroutine")
  (hcall:Calls P f (c.args.map A.eval) w λe w'=>∃v,e=.returned v/\K (A.put o.dst v) w'):wpOpIn (Fw none) 0 P ops Q i K A w:=by
 unfold wpOpIn;rw[ho];dsimp only;rw[if_pos (by simp[Region.wanted,hg])];refine⟨λ_ _=>trivial,?_⟩;have hse:(o.semAt (Fw none).round A.eval)=execOp A.eval o:=Oper.semAt_eq _ _ _ (λc hc=>by rw[hop]at hc;cases hc);rw[hse,Ti hop hc,vT hfn hb hname];refine⟨λhh=>by simp[Fw]at hh,?_⟩;refine CallsIn.mono ((callsIn_wide (n:=0)).2 hcall) λe w' he=>?_;obtain⟨v,rfl,hk⟩:=he;exact hk
theorem abg{F:Fence}{n:Nat}{ops:Array Oper}{Q Q':Exit->Act->World->Prop}(hQ:∀e a w,Q e a w->Q' e a w):∀(l:List Nat) (A:Act) (w:World),wpOpsIn F n P ops Q l A w->wpOpsIn F n P ops Q' l A w:=by
 intro l
 induction l with
 |nil=>intro A w h;exact hQ _ _ _ h
 |cons i l ih =>
  intro A w h;simp only[wpOpsIn]at h|-;cases ho:ops[i]? with
  |none=>rw[ho]at h;exact ih _ _ h
  |some o =>
   rw[ho]at h;dsimp only at h|-
   split
   .rename_i hw;rw[if_pos hw]at h;exact aac (λa v hq=>ih a v hq) (λe a v _ hq=>hQ e a v hq) h
   .rename_i hw;rw[if_neg hw]at h;exact⟨h.1,ih _ _ h.2⟩
end Go.Vx
namespace Go.Vx.Tab
variable {g g' g'' g0:G}{σ σ' sJ:H}{w w' w'' w0:World}{β β' β'':Nat->Option Nat}{lo lo':Lo}{fr fr' F F':List V}{A A':Act}{b b3:Nat}{T:Array Value}{D:List Deferred}{l:List UInt8}
noncomputable def aAc:Out:=.jump .ret (tC o14) (DZ o14) (zA o14)
theorem akG:Tryz.prog.funcs[18]?=some Tryz.f18:=Tryz.func18
def adp:Oper:={ dst:=some 50,op:=.call { callee:=.value (.func 18),args:=#[.tmp 10],argTypes:=#[75] },type:=9,pos:= "run.go:91",after:=#[],guard:=none }
theorem h13:Me[0]?=some adp:=by kernel_rfl
theorem ave:∃c,Tryz.f18.body=some c:=⟨_,rfl⟩
theorem awN:Tryz.f18.name≠ "runtime.NumGoroutine":=by decide
theorem avd:∃c,Tryz.f16.body=some c:=⟨_,rfl⟩
theorem awM:Tryz.f16.name≠ "runtime.NumGoroutine":=by decide
def abt(b3:Nat)(w:World):Prop:=∃(c:Array Value) (e:TypeId),w.heap[b3]?=some (.cells c e (0,0))/\c.size=2/\∀(j:Nat) (x:V),[V.int .i64 0,V.int .i64 0][j]?=some x->∃v,c[j]?=some v/\∀g,Rv g x v
theorem asK(hw0:Rw Tryz.prog (aX Tryz.prog vZ) g0 emp w0)(t:Stp g0 (λ_=>none) emp w0 g β σ w)(hs:Sc Tryz.prog (aX Tryz.prog vZ) w0.heap.size g β σ lo (tC o13) A w)(h3:w0.heap.size<=b3)(h3b:b3<b)(hB:Lib.IsBuilder 75 5 b b (Lib.byteCells l) w)(hl:l.map UInt8.toNat=[109,97,105,110,58,32,73,79,32,85,110,105,116,10])(hbx:abt b3 w)
  (hD:∀d∈A.defers,∀r,d.target=.collected r->r<b) (hb:g.ρ 0=some (b,2)) (hb3:g.ρ 1=some (b3,2)):(Code.seq c13 .ret).wpIn (Fw none) 0 Tryz.prog (kV Tryz.prog (aX Tryz.prog vZ) w0.heap.size g0 (λ_=>none) emp w0 aAc) A w:=by
 have hbw:b<w.heap.size:=by rcases hB with h|h<;>exact h.lt
 have hsz:A.tmps.size=52:=by rw[<- hs.s.f.size];exact az8
 have e10:A.eval (.tmp 10)=.pointer (some ⟨b,0,none⟩):=by
  have hx:A.tmps[10]?=some (A.tmps.getD 10 undef):=by simp[Array.getD,hsz]
  have h:=hs.s.f.at hx;rw[awW]at h;show A.tmps.getD 10 undef=_;generalize A.tmps.getD 10 undef=y at h;cases h with
  |bg off h=>rw[hb]at h;cases h;rfl
 have e3:A.tmps[3]?=some (.pointer (some ⟨b3,0,none⟩)):=by
  have hx:A.tmps[3]?=some (A.tmps.getD 3 undef):=by simp[Array.getD,hsz]
  have h:=hs.s.f.at hx;rw[az6]at h;rw[hx];generalize A.tmps.getD 3 undef=y at h;cases h with
  |bg off h=>rw[hb3]at h;cases h;rfl
 refine wpIn_seq ?_;rw[avj];refine wpIn_region ?_;rw[p13,show List.range 5=0::List.range' 1 4 from rfl,wpOpsIn_cons];obtain⟨bd,hbd⟩:=ave;refine UY h13 rfl rfl rfl akG hbd awN ?_;have hargs:(#[Operand.tmp 10]:Array Operand).map A.eval=#[.pointer (some ⟨b,0,none⟩)]:=by simp[e10]
 rw[hargs];refine Calls.mono (Go.Proofs.YteajegmpafjbgaaGreatDoor.bld.string b b l w hB (by rintro rfl;simp at hl)) λe w' he=>?_;obtain⟨rfl,hbl⟩:=he;refine⟨_,rfl,?_⟩;have avS:b<w'.heap.size:=jQ hbw hbl.size;obtain⟨hrw,hst⟩:=anh hw0 t hs hbl (by omega) avS h3b;have alA:∀o,g0.φ b3 o=none:=λo=>hw0.pW h3 o;have hsc:Sc Tryz.prog (aX Tryz.prog vZ) w0.heap.size (rg b b3 g0) (λt=>if t=3 then some b3 else none) ⟨2,.leaf⟩ arw F14 (A.put adp.dst (.string ⟨l.toArray⟩)) w':=by
  refine⟨⟨?_,?_,hrw⟩,?_,lM t.qg.size hbl.size⟩
  .have hT:(A.put adp.dst (.string ⟨l.toArray⟩)).tmps=A.tmps.setIfInBounds 50 (.string ⟨l.toArray⟩):=rfl;rw[hT];refine Ap.WZ (Ap.WZ (Ap.ad7 52 (by simp[hsz])) 50 λx hx=>?_) 3 λx hx=>?_
   .have:x=.string ⟨l.toArray⟩:=by simpa[rD,hsz]using hx.symm
    subst this;have:=Rv.str (g:=(rg b b3 g0)) ⟨l.toArray⟩;rw[show((⟨l.toArray⟩:ByteArray).data.toList.map UInt8.toNat)=l.map UInt8.toNat from rfl,hl]at this;exact .dK this
   .have hx':A.tmps[3]?=some x:=by simpa[rD]using hx
    rw[e3]at hx';cases hx';exact⟨b3,by simp,rfl⟩
  .refine⟨λu x e=>?_,λu x e=>⟨BF,?_⟩,λu v x e e'=>?_⟩
   .split at e
    .rename_i hu;cases e;subst hu;obtain⟨c,ty,k1,k2,k3⟩:=hbx;refine⟨[.int .i64 0,.int .i64 0],c,ty,rfl,(hbl.block b3 h3b).trans k1,by simp[k2],λj x hx=>?_⟩;obtain⟨v,h1,h2⟩:=k3 j x hx;exact⟨v,h1,h2 _⟩
    .cases e
   .split at e
    .cases e;exact alA
    .cases e
   .split at e
    .split at e'
     .omega
     .cases e'
    .cases e
  .rw[put_defers];exact Df.low hbl hD hs.d
 have hst':Stp g0 (λ_=>none) emp w0 (rg b b3 g0) (λt=>if t=3 then some b3 else none) ⟨2,.leaf⟩ w':=by
  refine⟨hst.le,hst.qg,hst.live,λu x e hlt=>?_,hst.phi⟩
  split at e
  .cases e;omega
  .cases e
 have h14:=Nr.ops _ F14 arw σ7 7 Me 1 none w0.heap.size _ _ _ _ rfl (by simp) hsc (by have:=yL auy;unfold o14 at this;rw[this];simp);rw[p13]at h14;refine abg (λe a v hq=>?_) _ _ _ h14;obtain⟨mP,lo1,σ1,hout,g1,β1,hs1,hs2⟩:=hq;have ho:ihB (.ops ((Me.toList.drop 1).map (ig Tryz.prog vZ 7 Me))) F14 arw σ7=.norm (tC o14) (DZ o14) (zA o14):=yL auy;rw[ho]at hout;rcases hout with⟨ho,rfl⟩|⟨j,ho,_⟩
 .cases ho;refine wpIn_ret ⟨_,_,_,.inr ⟨.ret,rfl,rfl⟩,g1,β1,hs1,hst'.trans hs2⟩
 .cases ho
noncomputable def L7:Code:=.seq c9 (.seq (.cond (.tmp 36) .skip (.exit 0)) (.seq (.block 1 (.seq c10 c11)) c12))
noncomputable def Q0 (g0:G) (w0:World):Exit->Act->World->Prop:=kV Tryz.prog (aX Tryz.prog vZ) w0.heap.size g0 (λ_=>none) emp w0 aAc
noncomputable def Q1 (g0:G) (w0:World):Exit->Act->World->Prop:=Exit.then ((Code.seq c13 .ret).wpIn (Fw none) 0 Tryz.prog (Q0 g0 w0)) (Q0 g0 w0)
noncomputable def Q2t (g0:G) (w0:World):Exit->Act->World->Prop:=Exit.inBlock 0 (Q1 g0 w0)
noncomputable def Q3 (g0:G) (w0:World):Exit->Act->World->Prop:=Exit.then ((Code.loop L7).wpIn (Fw none) 0 Tryz.prog (Q2t g0 w0)) (Q2t g0 w0)
theorem azZ:∀a w,¬Q2t g0 w0 .outgrown a w:=λa w h=>auu a w h
theorem reg{ih:Ih}(h0:Rz Tryz.prog vZ ih){c:Code}{id:Nat}{fr:List V}{lo:Lo}{σ:H}{o:Out}{B0:Nat}{Q:Exit->Act->World->Prop}(hc:c=.region id (opsOf c) false)(ho:o=ih (agl c) fr lo σ)(hn:I5 o=true)(hok:BN Tryz.prog (opsOf c)=true)(hsc:Sc Tryz.prog (aX Tryz.prog vZ) B0 g β σ lo fr A w)
  (hk:∀g' β' A' w',Sc Tryz.prog (aX Tryz.prog vZ) B0 g' β' (zA o) (DZ o) (tC o) A' w'->Stp g β σ w g' β' (zA o) w'->A'.defers=A.defers->Q .normal A' w'):c.wpIn (Fw none) 0 Tryz.prog Q A w:=by
 rw[hc];exact Xd h0 ho (yL hn) hok rfl hsc hk
theorem afk(hw0:Rw Tryz.prog (aX Tryz.prog vZ) g0 emp w0){β':Nat->Option Nat}(t:Stp (rg b b3 g0) (λ_=>none) ⟨2,.leaf⟩ w g' β' σ' w'){k:Nat}(h:w0.heap.size<=k)(hk:k<w.heap.size):w'.heap[k]?=w.heap[k]? :=
 t.qg.block k hk BF (λ⟨_,h⟩=>(by cases h)) (.inl λo=>hw0.pW h o)
theorem abt.same(h:abt b3 w)(e:w'.heap[b3]?=w.heap[b3]?):abt b3 w':=let⟨c,ty,h1,h2⟩:=h;⟨c,ty,e.trans h1,h2⟩
theorem U8{bs:List Value}(hB:Lib.IsBuilder 75 5 b b bs w)(hk:∀k,b<=k->k<w.heap.size->w'.heap[k]?=w.heap[k]?):Lib.IsBuilder 75 5 b b bs w':=by
 have key:∀p,Lib.BuilderAt 75 5 b b p bs w->Lib.BuilderAt 75 5 b b p bs w':=by
  rintro p ⟨h1,v,h2,h3,h4⟩
  refine⟨h1,v,(hk b (aJ _) (eY.1 h2).1).trans h2,⟨h3.1,?_⟩,h4⟩;rcases h3.2 with h|⟨gg,cap,cur,k1,k2,k3,k4⟩
  .exact .inl h
  .exact .inr ⟨gg,cap,cur,k1,k2,(hk gg k2 (eY.1 k3).1).trans k3,k4⟩
 exact hB.imp (key _) (key _)
theorem asJ(hw0:Rw Tryz.prog (aX Tryz.prog vZ) g0 emp w0)(t:Stp g0 (λ_=>none) emp w0 (rg b b3 g0) (λ_=>none) ⟨2,.leaf⟩ w)(hs:Sc Tryz.prog (aX Tryz.prog vZ) w0.heap.size (rg b b3 g0) (λ_=>none) ⟨2,.leaf⟩ [] F8 A w)(h3:w0.heap.size<=b3)(h3b:b3<b)(hB:Lib.IsBuilder 75 5 b b (Lib.byteCells l) w)(hl:l.map UInt8.toNat=[109,97,105,110,58,32,73,79,32,85,110,105,116,10])(hbx:abt b3 w)
  (hD:∀d∈A.defers,∀r,d.target=.collected r->r<b):c12.wpIn (Fw none) 0 Tryz.prog (Q3 g0 w0) A w:=by
 have hbw:b<w.heap.size:=by rcases hB with h|h<;>exact h.lt
 refine reg (o:=o12) Nr avi rfl az5 aDr hs λg1 β1 A1 w1 s1 t1 d1=>?_;refine xB azZ (wpIn_seq ?_);refine reg (o:=o13) Nr atV rfl az9 kk9 s1 λg2 β2 A2 w2 s2 t2 d2=>?_;refine wpIn_seq ?_;refine Ve (t:=false) s2.s rfl az7 ?_;rw[if_neg (by simp)];refine wpIn_exit ?_;show(if(0:Nat)=0 then Q1 g0 w0 .normal A2 w2 else Q1 g0 w0 (.exit 0) A2 w2);rw[if_pos rfl];have t12:=t1.trans t2;have hle:=t12.le;refine asK hw0 (t.trans t12) s2 h3 h3b (U8 hB λk h1 h2=>afk hw0 t12 (by omega) h2) hl (hbx.same (afk hw0 t12 h3 (by omega))) (by rw[d2,d1];exact hD) (hle.ρ 0 _ rfl) (hle.ρ 1 _ rfl)
end Go.Vx.Tab
end
namespace Go.Vx.Tab
section
open Go Go.RowKit Go.Proofs
variable {g g' g'' g0:G}{σ σ' sJ:H}{w w' w'' w0 w7:World}{β β' β'':Nat->Option Nat}{lo lo':Lo}{fr fr' F F':List V}{A A':Act}{b b3:Nat}{T:Array Value}{D:List Deferred}{l:List UInt8}{γ:G}
def WQ:Oper:={ dst:=some 48,op:=.call { callee:=.value (.func 16),args:=#[.tmp 10,.tmp 47],argTypes:=#[75,9] },type:=85,pos:= "run.go:89",after:=#[{ on:=8,ground:=Ground.data },{ on:=6,ground:=Ground.chain }],guard:=none }
theorem h11:DN[9]?=some WQ:=by kernel_rfl
theorem azB:∀q∈vZ.idle,A8 Tryz.prog q:=λq hq=>by
 have:q=155:=by simpa[vZ]using hq
 subst this;exact NK
theorem slot(h:Ap g β F A.tmps)(hl:F.length=52)(t:Nat)(ht:t<52):A.tmps[t]?=some (A.eval (.tmp t))/\Rs g β (aA F t) (A.eval (.tmp t)):=by
 have hsz:A.tmps.size=52:=by rw[<- h.size];exact hl
 have hx:A.tmps[t]?=some (A.eval (.tmp t)):=by simp[Act.eval,Array.getD,hsz,ht]
 exact⟨hx,h.at hx⟩
theorem am9{n:Nat}{x:Value}(h:Rs g β (.bg n 0) x){c m:Nat}(hr:g.ρ n=some (c,m)):x=.pointer (some ⟨c,0,none⟩):=by
 cases h with
 |bg off h=>rw[hr]at h;cases h;rfl
theorem aeZ{k:IntKind}{n:Int}{x:Value}(h:Rs g β (.int k n) x):x=.int k n:=by cases h;rfl
theorem asP{ns:List Nat}{x:Value}(h:Rs g β (.str ns) x):∃s:ByteArray,x=.string s/\s.data.toList.map UInt8.toNat=ns:=by
 cases h with
 |str bs=>exact⟨bs,rfl,rfl⟩
theorem asI(hw0:Rw Tryz.prog (aX Tryz.prog vZ) g0 emp w0)(t:Stp g0 (λ_=>none) emp w0 g β (zA RG) w)(hs:Sc Tryz.prog (aX Tryz.prog vZ) w0.heap.size g β (zA RG) (DZ RG) (tC RG) A w)(t7:Stp (rg b b3 γ) (λ_=>none) ⟨2,.leaf⟩ w7 g β (zA RG) w)(h3:w0.heap.size<=b3)(h3b:b3<b)(hbw:b<w7.heap.size)(av8:∀o,γ.φ b o=none)(alA:∀o,γ.φ b3 o=none)
  (hB:w7.heap[b]?=some (.cells #[.pointer none,.slice none 0 0] 75 (0,0))) (hbx:abt b3 w7) (hD:∀d∈A.defers,∀r,d.target=.collected r->r<b):c11.wpIn (Fw none) 0 Tryz.prog (Exit.inBlock 1 (Exit.then (c12.wpIn (Fw none) 0 Tryz.prog (Q3 g0 w0)) (Q3 g0 w0))) A w:=by
 rw[avh];have hn:fG ihB (flatten av9 aii) (tC RG) (DZ RG) (zA RG)=.norm (tC o11) (DZ o11) (zA o11):=yL az3;refine abM (D:=A.defers) (e:=9) (l:=aii) (f:=7) (β:=β) (g:=g) mixes azB Nr aDZ aD0 (by intro h;have:=aD1;rw[h]at this;cases this) aD2 (by rw[aw6];decide) aD3 (λi hi hne=>?_) (λi hi=>?_) (by simp) hs aDq rfl (by rw[hn];simp) ?_
 .rw[aw6]at hi;have:=aD4;rw[List.all_eq_true]at this;exact this i (dh.2 (by omega))
 .rw[aw6]at hi;have:=aD5;rw[List.all_eq_true]at this;have:=this i (dh.2 hi);intro hc;have hc':agw i=3:=hc;rw[hc']at this;cases this
 .intro g' β' lo' σ' Gr A' w' K hrun hs' t11 hD' hQ;rw[hn]at hrun;cases hrun;have tt:=t7.trans t11;have hb0:g'.ρ 0=some (b,2):=tt.le.ρ 0 _ rfl;have hb1:g'.ρ 1=some (b3,2):=tt.le.ρ 1 _ rfl;have keep:∀k,k<w7.heap.size->(∀o,γ.φ k o=none)->w'.heap[k]?=w7.heap[k]?:=λk hk hp=>tt.qg.block k hk BF (λ⟨_,h⟩=>(by cases h)) (.inl hp);obtain⟨q10,r10⟩:=slot hs'.s.f Uf 10 (by decide);obtain⟨q47,r47⟩:=slot hs'.s.f Uf 47 (by decide);obtain⟨q34,r34⟩:=slot hs'.s.f Uf 34 (by decide);obtain⟨q35,r35⟩:=slot hs'.s.f Uf 35 (by decide);obtain⟨q3,r3⟩:=slot hs'.s.f Uf 3 (by decide);rw[awQ]at r10;rw[awU]at r47;rw[awR]at r34;rw[awS]at r35;rw[az2]at r3;have e10:=am9 r10 hb0;have e3:=am9 r3 hb1;have e34:=aeZ r34;have e35:=aeZ r35;obtain⟨s,e47,hsl⟩:=asP r47;rw[e10]at q10;rw[e3]at q3;rw[e34]at q34;rw[e35]at q35;obtain⟨bd,hbd⟩:=avd;refine UY h11 rfl rfl rfl Tryz.func16 hbd awM ?_;have hargs:(#[Operand.tmp 10,.tmp 47]:Array Operand).map A'.eval=#[.pointer (some ⟨b,0,none⟩),.string s]:=by simp[e10,e47]
  rw[hargs];have avS:b<w'.heap.size:=jQ hbw tt.qg.size;have hsz:s.size=14:=by
   have:=congrArg List.length hsl;simpa using this
  refine Calls.mono (Go.Proofs.YteajegmpafjbgaaGreatDoor.bld.write b b [] s w' (.inl ⟨aJ _,_,(keep b hbw av8).trans hB,⟨rfl,.inl ⟨rfl,rfl⟩⟩,by simp[Value.ownBlock]⟩) (by simp[hsz]) (by omega)) λe w'' he=>?_;obtain⟨rfl,hbA,hbl⟩:=he;refine⟨_,rfl,hQ _ _ ?_⟩;obtain⟨hrw,hst⟩:=anh hw0 (t.trans t11) hs' hbl (by omega) (jQ avS hbl.size) h3b;have hdf:∀d∈A'.defers,∀r,d.target=.collected r->r<b:=by rw[hD'];exact hD
  have Xa:∀(v:Value) (t:Nat) (x:Value),t≠48->A'.tmps[t]?=some x->∀y,(A'.put WQ.dst v).tmps[t]?=some y->y=x:=by
   intro v t x hne hx y hy;have:(A'.put WQ.dst v).tmps=A'.tmps.setIfInBounds 48 v:=rfl;rw[this,rD,if_neg (λh=>hne h.symm),hx]at hy;cases hy;rfl
  refine asJ (l:=s.data.toList) hw0 hst ⟨⟨?_,.amD,hrw⟩,?_,lM (t.trans t11).qg.size hbl.size⟩ h3 h3b ?_ hsl ((hbx.same (keep b3 (by omega) alA)).same (hbl.block b3 h3b)) (by rw[put_defers];exact hdf)
  .refine Ap.WZ (Ap.WZ (Ap.WZ (Ap.WZ (Ap.ad7 52 ?_) 34 λx hx=>?_) 35 λx hx=>?_) 10 λx hx=>?_) 3 λx hx=>?_
   .have:(A'.put WQ.dst (.tuple #[.int .i64 s.size,.nilIface])).tmps=A'.tmps.setIfInBounds 48 (.tuple #[.int .i64 s.size,.nilIface]):=rfl;rw[this];have:=hs'.s.f.size;rw[Uf]at this;simp[<- this]
   .rw[Xa _ 34 _ (by decide) q34 x hx];exact .dK (.int _ _)
   .rw[Xa _ 35 _ (by decide) q35 x hx];exact .dK (.int _ _)
   .rw[Xa _ 10 _ (by decide) q10 x hx];exact .dK (.bg 0 rfl)
   .rw[Xa _ 3 _ (by decide) q3 x hx];exact .dK (.bg 0 rfl)
  .rw[put_defers];exact Df.low hbl hdf hs'.d
  .exact .inr (by simpa[Lib.strCells,Lib.byteCells]using hbA)
theorem axr(hw0:Rw Tryz.prog (aX Tryz.prog vZ) g0 emp w0)(t:Stp g0 (λ_=>none) emp w0 (rg b b3 γ) (λ_=>none) ⟨2,.leaf⟩ w7)(hs:Sc Tryz.prog (aX Tryz.prog vZ) w0.heap.size (rg b b3 γ) (λ_=>none) ⟨2,.leaf⟩ [] F7 A w7)(h3:w0.heap.size<=b3)(h3b:b3<b)(hbw:b<w7.heap.size)(av8:∀o,γ.φ b o=none)(alA:∀o,γ.φ b3 o=none)
  (hB:w7.heap[b]?=some (.cells #[.pointer none,.slice none 0 0] 75 (0,0))) (hbx:abt b3 w7) (hD:∀d∈A.defers,∀r,d.target=.collected r->r<b):(Code.seq (.seq c8 (.block 0 (.loop L7))) (.seq c13 .ret)).wpIn (Fw none) 0 Tryz.prog (Q0 g0 w0) A w7:=by
 refine wpIn_seq (wpIn_seq ?_);refine reg (o:=o8) Nr ayw rfl aDR kk8 hs λg1 β1 A1 w1 s1 t1 d1=>?_;refine wpIn_block ?_;show(Code.loop L7).wpIn (Fw none) 0 Tryz.prog (Q2t g0 w0) A1 w1;refine xB azZ (wpIn_seq ?_);refine reg (o:=o9) Nr atV rfl aDT kk9 s1 λg2 β2 A2 w2 s2 t2 d2=>?_;refine wpIn_seq ?_;refine Ve (t:=true) s2.s rfl aDS ?_;rw[if_pos rfl];refine wpIn_skip (wpIn_seq (wpIn_block (wpIn_seq ?_)));refine reg (o:=RG) Nr avg rfl az1 aDp s2 λg3 β3 A3 w3 s3 t3 d3=>?_;have tt:=(t1.trans t2).trans t3;exact asI hw0 (t.trans tt) s3 tt h3 h3b hbw av8 alA hB hbx (by rw[d3,d2,d1];exact hD)
end
end Go.Vx.Tab
section
open Go Go.RowKit Go.Proofs
namespace Go.Vx
theorem aby(w:World)(o:Go.Obj):(w.alloc o).heap.size=w.heap.size+1:=by simp
theorem aib{P:Program}{o:Oper}{Q:Exit->Act->World->Prop}{a:Act}{w w':World}{v:Value}(hg:o.guard=none)(hnd:∀c,o.op≠.defer c)(hr:(execOp a.eval o).run P w=.ok (.value v) w')(h:Q .normal (a.put o.dst v) w'):wpOpsIn (Fw none) 0 P #[o] Q (List.range 1) a w:=by
 have h1:List.range 1=[0]:=rfl;have h2:(#[o]:Array Oper)[0]?=some o:=rfl;rw[h1];unfold wpOpsIn;rw[h2];dsimp only;rw[if_pos (by simp[Region.wanted,hg])];refine⟨λ_ _=>trivial,?_⟩;have hse:(o.semAt (Fw none).round a.eval)=execOp a.eval o:=Oper.semAt_eq _ _ _ hnd;rw[hse,hr,Oper.uponIn_value];exact h
end Go.Vx
namespace Go.Vx.Tab
variable {g g' g'' g0:G}{σ σ' sJ:H}{w w' w'' w0 w7:World}{β β' β'':Nat->Option Nat}{lo lo':Lo}{fr fr' F F':List V}{A A':Act}{b b3:Nat}{T:Array Value}{D:List Deferred}{l:List UInt8}{γ:G}
def WO:Oper:={ dst:=some 10,op:=.alloc 75,type:=0,pos:= "run.go:87",after:=#[],guard:=none }
theorem ayv:c7=.region 7 #[WO] false:=by kernel_rfl
theorem apz(a:Act)(w:World):(execOp a.eval WO).run Tryz.prog w=.ok (.value (.pointer (some ⟨w.heap.size,0,none⟩))) (w.alloc (.cells #[.pointer none,.slice none 0 0] 75 (0,0))):=by
 have hz:(zeroValue 75).run Tryz.prog w=.ok _ w:=Tryz.zeroValue75 w;simp only[execOp,WO,Instr.alloc,aH,hz,Result.andThen,newVar,newRow,run_newObj_alloc,Sem.run_pure]
 try rfl
theorem start(hargs:lW g0 aT T.toList)(hw0:Rw Tryz.prog (aX Tryz.prog vZ) g0 emp w0):(Code.seq c0 (.seq c1 (.seq cA2 (.seq c4 (.seq cA5 (.seq c7 (.seq (.seq c8 (.block 0 (.loop L7))) (.seq c13 .ret)))))))).wpIn (Fw none) 0 Tryz.prog (Q0 g0 w0) { tmps:=T++Array.replicate (52-T.size) undef,defers:=[] } w0:=by
 have hsc:Sc Tryz.prog (aX Tryz.prog vZ) w0.heap.size g0 (λ_=>none) emp [] (pad 52 aT) { tmps:=T++Array.replicate (52-T.size) undef,defers:=[] } w0 :=
  ⟨⟨YT hargs _,.amD,hw0⟩,trivial,aJ _⟩
 refine wpIn_seq (zk (o:=o0) Nr rfl (yL aDN) hsc λg1 β1 A1 w1 s1 t1=>?_);refine wpIn_seq (zk (o:=o1) Nr rfl (yL aDO) s1 λg2 β2 A2 w2 s2 t2=>?_);refine wpIn_seq (zk (o:=o2) Nr rfl (yL aDP) s2 λg3 β3 A3 w3 s3 t3=>?_);refine wpIn_seq (zk (o:=o4) Nr rfl (yL aDQ) s3 λg4 β4 A4 w4 s4 t4=>?_);refine wpIn_seq (zk (o:=oP) Nr rfl (yL aDW) s4 λg5 β5 A5 w5 s5 t5=>?_);have t:=(((t1.trans t2).trans t3).trans t4).trans t5;refine wpIn_seq ?_;rw[ayv];refine wpIn_region (aib rfl (λc h=>by cases h) (apz A5 w5) ?_);obtain⟨q3,r3⟩:=slot s5.s.f awX 3 (by decide);rw[aDU]at r3;obtain⟨b3,hβ,e3⟩:=r3;obtain⟨cs,c,ty,k1,k2,k3,k4⟩:=s5.s.b.boxes 3 b3 hβ;rw[aAb]at k1;cases k1;obtain⟨hl3,hp3⟩:=s5.s.b.apart 3 b3 hβ;have hlt3:b3<w5.heap.size:=(eY.1 k2).1;have h03:w0.heap.size<=b3:=by
  rcases dP b3 w0.heap.size with h|h
  .obtain⟨u,hu⟩:=t.box 3 b3 hβ h;cases hu
  .exact h
 obtain⟨q8,r8⟩:=slot s5.s.f awX 8 (by decide);have r8':Rv g5 v8 (A5.eval (.tmp 8)):=r8.rv λu o e=>by
  have e':v8=.aY u o:=e;have:=aEp;rw[e']at this;cases this
 have hg5:∀i,g5.ρ i=none:=λi=>(s5.s.w.fresh i (by rw[aDV];exact eX _)).1;have azb:g5.le (rg w5.heap.size b3 g5):=⟨λi x h=>(by rw[hg5]at h;cases h),λ_ _ _ h=>h,λ_=>.rfl⟩;have hwa:=s5.s.w.alloc (.cells #[.pointer none,.slice none 0 0] 75 (0,0));have hold:∀k,k<w5.heap.size->(w5.alloc (.cells #[.pointer none,.slice none 0 0] 75 (0,0))).heap[k]?=w5.heap[k]?:=λk hk=>Below.heap_alloc w5 _ k hk;have hsz:(w5.alloc (.cells #[.pointer none,.slice none 0 0] 75 (0,0))).heap.size=w5.heap.size+1:=aby _ _;have aCy:Stp g0 (λ_=>none) emp w0 (rg w5.heap.size b3 g5) (λ_=>none) ⟨2,.leaf⟩ (w5.alloc (.cells #[.pointer none,.slice none 0 0] 75 (0,0))) :=
  ⟨t.le.trans azb,⟨t.qg.os,t.qg.tape,t.qg.output,by have:=t.qg.size;omega,λk hk hl hx hp=>(hold k (jQ hk t.qg.size)).trans (t.qg.block k hk hl hx hp)⟩,λx h _=>absurd h BF,λt b e=>(by cases e),λx hx hp hl=>t.phi x hx hp hl⟩
 refine axr (b:=w5.heap.size) (b3:=b3) (γ:=g5) hw0 aCy ⟨⟨?_,.amD,Rw.base hwa.frozen (by omega) (by omega)⟩,?_,by have:=t.qg.size;omega⟩ h03 hlt3 (by omega) (λo=>s5.s.w.pW (aJ _) o) hp3 (Go.World.alloc_heap_new w5 _) ⟨c,ty,(hold b3 hlt3).trans k2,by simpa using k3.symm,λj x hx=>?_⟩ (by rw[put_defers];exact Df.ltB s5.d)
 .have hsz5:A5.tmps.size=52:=by rw[<- s5.s.f.size];exact awX
  have hT:(A5.put WO.dst (.pointer (some ⟨w5.heap.size,0,none⟩))).tmps=A5.tmps.setIfInBounds 10 (.pointer (some ⟨w5.heap.size,0,none⟩)):=rfl;rw[hT];refine Ap.WZ (Ap.WZ (Ap.WZ (Ap.ad7 52 (by simp[hsz5])) 8 λx hx=>?_) 10 λx hx=>?_) 3 λx hx=>?_
  .have hx':A5.tmps[8]?=some x:=by simpa[rD]using hx
   rw[q8]at hx';cases hx';exact .dK (r8'.mono azb)
  .have:x=.pointer (some ⟨w5.heap.size,0,none⟩):=by simpa[rD,hsz5]using hx.symm
   subst this;exact .dK (.bg 0 rfl)
  .have hx':A5.tmps[3]?=some x:=by simpa[rD]using hx
   rw[q3,e3]at hx';cases hx';exact .dK (.bg 0 rfl)
 .rw[put_defers];exact Df.keep (λr x hr=>hold r (eY.1 hr).1) s5.d
 .obtain⟨v,h1,h2⟩:=k4 j x hx;refine⟨v,h1,λg=>?_⟩;have:x=.int .i64 0:=by
   match j,hx with
   |0,hx=>simpa using hx.symm
   |1,hx=>simpa using hx.symm
   |j+2,hx=>simp at hx
  subst this;cases h2;exact .int _ _
end Go.Vx.Tab
end
namespace Go.Vx.Tab
section
open Go Go.RowKit Go.Proofs
def azT:Tryz.f7.name≠ "runtime.NumGoroutine":=by decide
def call7:qm Tryz.prog vZ 7 aT emp (.val rT (zA o14)):=by
 intro g As w v σ' hargs hw e;cases e;refine .inl ⟨vT Tryz.func7 aeu azT As w,?_⟩;refine callsIn_of_wp_marks Tryz.func7 aeu trivial ?_;refine wpIn_mono (start hargs hw) λex A' w' hp=>?_;obtain⟨mP,lo1,σ1,hout,g1,β1,hs1,hst⟩:=hp;rcases hout with⟨ho,_⟩|⟨j,ho,rfl⟩
 .cases ho
 .cases ho;have hl:LeavesInM (Fw none) 0 Tryz.prog Tryz.f7 A'.tmps (λ|.returned x,w''=>xJ Tryz.prog vZ g emp w rT (zA o14) x w''|_,_=>False) A'.defers .returning w':=by
   refine TL (B0:=w.heap.size) (g:=g1) (β:=β1) (σ:=zA o14) (lo:=DZ o14) (fr:=tC o14) (A:=A') (comp:=(aX Tryz.prog vZ)) A'.defers w' hs1.d hs1.s λw2 hs2 hz ho ht hu hb2=>?_;obtain⟨x,hx,hxr⟩:=QJ hs2 asi aAa;refine⟨x,hx,g1,hxr,hs2.w,hst.le,⟨ho.trans hst.qg.os,ht.trans hst.qg.tape,hu.trans hst.qg.output,by rw[hz];exact hst.qg.size,λk hk hl hb hp=>?_⟩,λb hb hlt=>hst.live b hb hlt,λt b hb _=>(by cases hb),λb hlt hp hl o=>hst.phi b hlt hp hl o⟩;rw[hb2 k hk];exact hst.qg.block k hk hl hb hp
  exact hl
def okT:Ans 7 aT rT:=fun σ=>Hq call7 (by decide +kernel) (by decide +kernel) σ
end
noncomputable def lA:List En:=[en 68,(7,aT,rT)]
def kA:nY (nZ (mOf lA) fns 1000000 (.call 4 []) zW bx0 emp) (.bool true)=true:=by decide +kernel
def okA:Ans 4 [] (.bool true):=ans_of (l:=lA) ⟨ok (by decide),okT,trivial⟩ kA rfl rfl
def LJ{i:Nat}{s:List Nat}(h:nY (nZ (mOf []) fns 1000000 (.call 5 [.int .i64 (.ofNat i)]) zW bx0 emp) (.str s)=true):AnE (5,[.int .i64 (.ofNat i)],.str s):=ans_of (l:=[]) trivial h rfl rfl
noncomputable def dL (l:List (Nat×List V×V)):List (Nat×List V×V):=(5,[.int .i64 (.ofNat 1)],.str [49])::(5,[.int .i64 (.ofNat 2)],.str [50])::(5,[.int .i64 (.ofNat 3)],.str [51])::(5,[.int .i64 (.ofNat 4)],.str [52])::(5,[.int .i64 (.ofNat 5)],.str [53])::(5,[.int .i64 (.ofNat 6)],.str [54])::(5,[.int .i64 (.ofNat 7)],.str [55])::(5,[.int .i64 (.ofNat 8)],.str [56])::l
def ayz{l:List (Nat×List V×V)}(h:uZ l):uZ (dL l):=⟨LJ (by decide +kernel),LJ (by decide +kernel),LJ (by decide +kernel),LJ (by decide +kernel),LJ (by decide +kernel),LJ (by decide +kernel),LJ (by decide +kernel),LJ (by decide +kernel),h⟩
end Go.Vx.Tab
namespace Go.Vx
section
open Go Go.RowKit Go.Vx.Tab
def axL{e:Tab.En}(h:Tab.AnE e):Tab.AnE (e.1,e.2.1,dV e.2.2):=(show Ans e.1 e.2.1 e.2.2 from h).weak (Wk.wk _)
def atQ:∀n,n<9->mF n=true/\KP n n/\CF n
 |0,_=>⟨m0x,kp0 0,IB c0x⟩
 |1,_=>⟨m1x,TG (kp0 1) k1t1,IB c1x⟩
 |2,_=>⟨m2x,TG (kp0 2) k2t1,IB c2x⟩
 |3,_=>⟨m3x,TG (kp0 3) k3t1,IB c3x⟩
 |4,_=>⟨m4x,TG (TG (kp0 4) k4t1) k4t4,IB c4x⟩
 |5,_=>⟨m5x,TG (TG (kp0 5) k5t1) k5t3,IB c5x⟩
 |6,_=>⟨m6x,TG (TG (TG (kp0 6) k6t1) k6t3) k6t6,IB c6x⟩
 |7,_=>⟨m7x,TG (TG (TG (TG (kp0 7) k7t1) k7t2) k7t4) k7t7,IB c7x⟩
 |8,_=>⟨m8x,TG (TG (TG (TG (TG (kp0 8) k8t1) k8t2) k8t3) k8t5) k8t8,IB c8x⟩
 |n+9,h=>by omega
noncomputable def a8 (n:Nat):List V:=[.list (ofBytes (fkT n++fkZ)) false]
noncomputable def a9 (n:Nat):List V:=[.agg [p0 (pe n),p1 (pe n)]]
noncomputable def lP (n:Nat):List En:=(4,[],.bool true)::Tab.dL [(8,a8 n,pe n),(9,a9 n,ce n),(10,[p1 (pe n),.func (.func 11) [] []],.int .i64 0),(12,[.agg [(fC n).ops,(fC n).defs],.int .i64 0,.int .i64 3000],dV (agk (fC n) (fs0 n)))]
noncomputable def mmT (n:Nat):eF:=λf=>bif Nat.beq f 26 then some ⟨lim D5 mY 26⟩else bif Nat.beq f 29 then some ⟨lim D5 mY 29⟩else bif Nat.beq f 27 then some ⟨lim D5 mY 27⟩else bif Nat.beq f 32 then some ⟨lim D5 mY 32⟩else bif Nat.beq f 28 then some ⟨colS⟩else bif Nat.beq f 30 then some ⟨lim mmB oC 30⟩else Tab.mOf (lP n) f
def wrT(n:Nat):WR (mmT n) Tab.fns where
 wm:=⟨λ_ _ h=>AO h,λ_ _ h=>AO h,λ_ _ h=>AO h,λ_ _ h=>h⟩
 stuck _ _ h:=AO h
 text _ _ h:=AO h
 run:=⟨λ_=>rfl,rfl⟩
 play:=⟨λ_=>rfl,rfl⟩
 ended:=⟨fun _=>rfl,rfl⟩
 last:=⟨λ_=>rfl,rfl⟩
noncomputable def isA (n f:Nat) (a:List V) (v:V):Bool:=match ay (mmT n) f a with|some u=>lZ u v|none=>false
def VZ{n f:Nat}{a:List V}{v:V}(h:isA n f a v=true):ay (mmT n) f a=some v:=by
 unfold isA at h;cases hr:ay (mmT n) f a with
 |none=>rw[hr]at h;cases h
 |some u=>rw[hr]at h;rw[jv h]
noncomputable def rF (n:Nat):Bool:=Nat.beq (en (132+n)).1 8&&(wL (en (132+n)).2.1 (a8 n)&&(Nat.beq (en (141+n)).1 9&&(wL (en (141+n)).2.1 (a9 n)&&(isA n 8 (a8 n) (pe n)&&(isA n 9 (a9 n) (ce n)&&(isA n 10 [p1 (pe n),.func (.func 11) [] []] (.int .i64 0)&&isA n 12 [.agg [(fC n).ops,(fC n).defs],.int .i64 0,.int .i64 3000] (dV (agk (fC n) (fs0 n)))))))))
def r9:Nat.rec true (λi ih=>rF i&&ih) 9=true:=by decide +kernel
def aw8:∀{m i:Nat},Nat.rec true (λi ih=>rF i&&ih) m=true->i<m->rF i=true
 |0,i,_,h=>by omega
 |m+1,i,h,hi=>by
  have h:(rF m&&Nat.rec true (λi ih=>rF i&&ih) m)=true:=h;rw[ah]at h;by_cases e:i=m
  .subst e;exact h.1
  .exact aw8 h.2 (by omega)
def atT{e:En}{f:Nat}{a:List V}(h:AnE e)(h1:Nat.beq e.1 f=true)(h2:wL e.2.1 a=true):AnE (f,a,e.2.2):=by
 show Ans f a e.2.2;rw[<- aP h1,<- oU _ _ h2];exact h
def aDs{n:Nat}(hn:n<9):Tab.uZ (lP n):=by
 have hc:=(atQ n hn).2.2;have h:=aw8 r9 hn;unfold rF at h;simp only[ah]at h;obtain⟨g1,g2,g3,g4,_⟩:=h;exact⟨Tab.okA,Tab.ayz ⟨atT (Tab.ok (by omega)) g1 g2,axL (atT (Tab.ok (by omega)) g3 g4),hc.ix.ans (Tab.pY Jk),(hc.beg.ans (Tab.pY Jk)).weak (Wk.wk _),trivial⟩⟩
def awL{n:Nat}(hn:n<9):qN Go.Proofs.Tryz.prog vZ (mmT n):=λf a v h=>by
 unfold ay mmT at h;cases h0:Nat.beq f 26 with
 |true=>rw[h0]at h;rw[aP h0];exact(tH (show lim D5 mY 26 a=some v from h)).ans (asC WA)
 |false =>
  rw[h0]at h;cases h1:Nat.beq f 29 with
  |true=>rw[h1]at h;rw[aP h1];exact(tH (show lim D5 mY 29 a=some v from h)).ans (asC WA)
  |false =>
   rw[h1]at h;cases h2:Nat.beq f 27 with
   |true=>rw[h2]at h;rw[aP h2];exact(tH (show lim D5 mY 27 a=some v from h)).ans (asC WA)
   |false =>
    rw[h2]at h;cases h3:Nat.beq f 32 with
    |true=>rw[h3]at h;rw[aP h3];exact(tH (show lim D5 mY 32 a=some v from h)).ans (asC WA)
    |false =>
     rw[h3]at h;cases h4:Nat.beq f 28 with
     |true=>rw[h4]at h;rw[aP h4];exact ap5 (show colS a=some v from h)
     |false =>
      rw[h4]at h;cases h5:Nat.beq f 30 with
      |true=>rw[h5]at h;rw[aP h5];exact(tH (show lim mmB oC 30 a=some v from h)).ans (asB Vr)
      |false =>
       rw[h5]at h;exact Tab.ac8 (aDs hn) f a v h
def runF9{n:Nat}(hn:n<9):aju (mmT n) Tab.fns n (ofBytes (fkT n++fkZ)):=by
 obtain⟨h1,h2,h3⟩:=atQ n hn;have h:=aw8 r9 hn;unfold rF at h;simp only[ah]at h;obtain⟨_,_,_,_,g5,g6,g7,g8⟩:=h;exact ab5 (wrT n) (akV hn h1 h2 h3) rfl rfl rfl h3.glue (VZ g5) (VZ g6) (VZ g7) (VZ g8)
def aw9(n:Nat)(a:List V):ay (mmT n) 3 a=none:=rfl
def awT(n:Nat):ay (mmT n) 4 []=some (.bool true):=by kernel_rfl
def ayB(n i:Nat)(h:i<8):ay (mmT n) 5 [.int .i64 (.ofNat (i+1))]=some (.str [48+(i+1)]):=by
 rcases(show i=0\/i=1\/i=2\/i=3\/i=4\/i=5\/i=6\/i=7 from by omega)with rfl|rfl|rfl|rfl|rfl|rfl|rfl|rfl<;>kernel_rfl
def YN:∀bs:List Nat,aW (bs.map λb=>V.agg [.int .u8 (.ofNat b)])=true
 |[]=>rfl
 |b::bs=>by
  rw[bD];show((true&&true)&&aW _)=true;rw[YN bs];rfl
def agU{n:Nat}(hn:n<256){s:V}(hs:s=.aj\/∃bs:List Nat,(∀b∈bs,b<256)/\s=.list (bs.map λb=>V.agg [.int .u8 (.ofNat b)]) false):Tab.Ans 3 [.int .u8 (.ofNat n),s] (.bool true):=by
 have hfl:aW [.int .u8 (.ofNat n),s]=true:=by
  rcases hs with rfl|⟨bs,_,rfl⟩
  .rfl
  .show(true&&(aW _&&true))=true;rw[YN bs];rfl
 have h9:n%9<9:=Nat.mod_lt _ (by decide);have hrun:=runF9 h9;have key:∃N h2,∀m,N<=m->runM (mmT (n%9)) Tab.fns m (.call 3 [.int .u8 (.ofNat n),s]) [] [] emp=.val (.bool true) h2:=by
  rcases hs with rfl|⟨bs,hb,rfl⟩
  .exact ak1 (sc:=[]) (aw9 _) rfl (awT _) hn (ayB _) (.nil rfl) (by simp) (λi hi=>by simp at hi) hrun
  .by_cases hl:bs.length<=600
   .refine ak1 (aw9 _) rfl (awT _) hn (ayB _) .list (by simpa using hl) (λi hi=>?_) hrun;have hi2:i<bs.length:=by simpa using hi
    obtain⟨r,e⟩:∃rest,skip i (bs.map λb=>V.agg [.int .u8 (.ofNat b)])=V.agg [.int .u8 (.ofNat bs[i])]::rest:=lD (show(bs.map λb=>V.agg [.int .u8 (.ofNat b)])[i]?=some (V.agg [.int .u8 (.ofNat bs[i])])from by rw[iW,bV hi2];rfl);exact⟨_,_,e,hb _ (ku hi2)⟩
   .exact aqs (aw9 _) rfl (awT _) hn (by simp;omega)
 obtain⟨N,h2,hr⟩:=key;exact fun σ=>(EvA.ans (Tab.pY (awL h9)) (show EvA (mmT (n%9)) Tab.fns _ _ _ from⟨hfl,rfl,N,λm hm=>⟨h2,hr m hm⟩⟩)) σ
end
end Go.Vx
