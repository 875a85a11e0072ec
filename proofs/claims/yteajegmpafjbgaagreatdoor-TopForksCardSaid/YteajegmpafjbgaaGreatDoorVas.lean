/- A part of the proof of TopForks. -/
import Derived.Test.YteajegmpafjbgaaGreatDoorVar
set_option linter.all false
set_option maxRecDepth 1000000
set_option maxHeartbeats 80000000
noncomputable section
open Go Go.RowKit
namespace Go.Vx
def Yz(e:Nat×Nat×Nat):V:=.agg [jn e.1,jn e.2.1,jn e.2.2]
def evC:List (Nat×Nat×Nat)->List V
 |[]=>[]
 |e::es=>jn e.1::jn e.2.1::jn e.2.2::evC es
def O1:∀a b,evC (a++b)=evC a++evC b
 |[],b=>rfl
 |e::a,b=>by simp only[dZ,evC,O1 a b]
def O4:∀es,(evC es).length=es.length*3
 |[]=>rfl
 |e::es=>by simp only[evC,bP,O4 es];omega
inductive Told (h:H):List (Nat×Nat×Nat)->V->Prop
 |nil:Told h [] .aj
 |some {es:List (Nat×Nat×Nat)} {id:Nat} (hne:es≠[]) (hg:getCells h id=.some (evC es)) (hid:id<h.next):Told h es (.hsl id 0 es.length none 3)
inductive Scr (sc:List V):V->Prop
 |nil (h:sc=[]):Scr sc .aj
 |list:Scr sc (.list sc false)
def Scr.of{sc:List V}{v:V}{i:Nat}(h:Scr sc v)(hi:i<sc.length):v=.list sc false:=by
 cases h with
 |nil h=>subst h;simp at hi
 |list=>rfl
def Scr.two{sc:List V}{v:V}(h:Scr sc v):v=.list sc false\/(v=.aj/\sc=[]):=by
 cases h with
 |nil h=>exact .inr ⟨rfl,h⟩
 |list=>exact .inl rfl
section
def sO:aN:=match(Tab.zQ).body with|.seq _ (.seq _ (.seq (.seq _ (.block _ (.loop c))) _))=>c|_=>.skip
def Uo:aN:=match(Tab.zQ).body with|.seq _ (.seq _ (.seq _ d))=>d|_=>.skip
structure PI (fr:List V)(lo:Lo)(h:H)(uT:V)(deep:Int)(sc cW:List V)(i:Nat)(es:List (Nat×Nat×Nat))(out:V):Prop where
 fl:fr.length=91
 s1:aA fr 1=uT
 s2:aA fr 2=.int .i64 deep
 s3:aA fr 3=.aY 3 0
 s6:aA fr 6=.aY 6 0
 s9:aA fr 9=out
 s16:aA fr 16=uT
 NZ:aA fr 17=.int .i64 (.ofNat sc.length)
 s18:aA fr 18=.int .i64 (.ofNat i)
 b3:dA lo 3=some cW
 b6:∃z,dA lo 6=some z/\z.length=9
 scr:Scr sc uT
 told:Told h es out
variable {mm:eF}{fns:Nat->Option bF}{fr:List V}{lo:Lo}{h:H}{uT:V}{i b:Nat}{deep:Int}{sc:List V}{es:List (Nat×Nat×Nat)}{out:V}{w0 w1 w2 w3 w4 w5 w6 w7 w8 x0 x1 x2 x3 x4 x5 x6 x7 x8:V}{k t n:Nat}
theorem asb(hI:PI fr lo h uT deep sc [w0,w1,w2,w3,w4,w5,w6,w7,w8] i es out)(hi:i<sc.length)(hb:∃rest,skip i sc=.agg [.int .u8 (.ofNat b)]::rest)(hi3:Nat.ble i 9223372036854775806=true)
  (hov:ay mm 26 [.agg [w0,w1,w2,w3,w4,w5,w6,w7,w8]]=some (.bool false)) (zX:bf [w0,w1,w2,w3,w4,w5,w6,w7,w8]=true) (hok:bf [x0,x1,x2,x3,x4,x5,x6,x7,x8]=true)
  (hb1:Nat.beq b 255=false) (hb2:Nat.beq b 254=false) (hb3:Nat.ble b 9223372036854775807=true) (hpk:ay mm 29 [.agg [w0,w1,w2,w3,w4,w5,w6,w7,w8],.int .i64 (.ofNat b),.int .i64 deep]=some (.tuple [.agg [x0,x1,x2,x3,x4,x5,x6,x7,x8],.agg [.int .i64 (.ofNat 0),.int .i64 (.ofNat t),.int .i64 (.ofNat n)]])) :
  ∃aB lo2,(∀N,runM mm fns (N+300) (.code sO) fr lo h=.norm aB lo2 h)/\PI aB lo2 h uT deep sc [x0,x1,x2,x3,x4,x5,x6,x7,x8] (i+1) es out:=by
 obtain⟨rest,hsk⟩:=hb;obtain rfl:=hI.scr.of hi;have hi:Nat.ble (i+1) sc.length=true:=dO hi;simp only[bf,ah,cZ]at hok zX;obtain⟨p0,p1,p2,p3,p4,p5,p6,p7,p8⟩:=hok;obtain⟨o0,o1,o2,o3,o4,o5,o6,o7,o8⟩:=zX;have Kt:=λN fr lo h=>dJ (fns:=fns) (n:=N) (fr:=fr) (lo:=lo) (h:=h) hov;have hlen:=hI.fl;have hko:∀q,oG q out=out:=λq=>by cases hI.told<;>rfl
 have ace:=λN fr lo h=>dJ (fns:=fns) (n:=N) (fr:=fr) (lo:=lo) (h:=h) hpk;have hc1:sK (.ofNat b) 255=false:=hb1;have hc2:sK (.ofNat b) 254=false:=hb2;refine⟨?aB,?lo2,?eq,?pi⟩
 case eq =>
  intro N;simp -implicitDefEqProofs only[sO,Tab.zQ,WW,aS,aZ,aK,aC.ev,aC.evs,bG,aF,bH,splice,bC,takeN,skip,bf,Nat.reduceAdd,Nat.beq,Nat.blt,Nat.ble,cO,dD,mV,eH,iK,eqK,nH,fU,gX,jU,OR.eU,LL9,Nat.reduceEqDiff,Nat.reduceLT,Nat.beq,hlen,hI.s2,hI.s3,hI.s16,hI.NZ,hI.s18,hI.b3,hsk,hi,hi3,Kt,hb1,hb2,hb3,ace,p0,p1,p2,p3,p4,p5,p6,p7,p8];rfl
 case pi =>
  constructor
  case b6 =>
   obtain⟨z,hz,hl⟩:=hI.b6;exact⟨z,by first|exact hz|(simp only[LL9,Nat.reduceEqDiff];exact hz),hl⟩
  case scr=>exact hI.scr
  case told=>exact hI.told
  all_goals simp only[LL9,Nat.reduceEqDiff,Nat.reduceLT,Nat.beq,hlen,hI.s1,hI.s2,hI.s3,hI.s6,hI.s9,hI.s16,hI.NZ,hko]
theorem asc(hI:PI fr lo h uT deep sc [w0,w1,w2,w3,w4,w5,w6,w7,w8] i es out)(hi:i<sc.length)(hb:∃rest,skip i sc=.agg [.int .u8 (.ofNat b)]::rest)(hi3:Nat.ble i 9223372036854775806=true)
  (hov:ay mm 26 [.agg [w0,w1,w2,w3,w4,w5,w6,w7,w8]]=some (.bool false)) (zX:bf [w0,w1,w2,w3,w4,w5,w6,w7,w8]=true) (hok:bf [x0,x1,x2,x3,x4,x5,x6,x7,x8]=true)
  (hb1:Nat.beq b 255=false) (hb2:Nat.beq b 254=false) (hb3:Nat.ble b 9223372036854775807=true) (hpk:ay mm 29 [.agg [w0,w1,w2,w3,w4,w5,w6,w7,w8],.int .i64 (.ofNat b),.int .i64 deep]=some (.tuple [.agg [x0,x1,x2,x3,x4,x5,x6,x7,x8],.agg [.int .i64 (.ofNat 1),.int .i64 (.ofNat t),.int .i64 (.ofNat n)]])) :
  ∃aB lo2,(∀N,runM mm fns (N+300) (.code sO) fr lo h=.norm aB lo2 h)/\PI aB lo2 h uT deep sc [x0,x1,x2,x3,x4,x5,x6,x7,x8] (i+1) es out:=by
 obtain⟨rest,hsk⟩:=hb;obtain rfl:=hI.scr.of hi;have hi:Nat.ble (i+1) sc.length=true:=dO hi;simp only[bf,ah,cZ]at hok zX;obtain⟨p0,p1,p2,p3,p4,p5,p6,p7,p8⟩:=hok;obtain⟨o0,o1,o2,o3,o4,o5,o6,o7,o8⟩:=zX;have Kt:=λN fr lo h=>dJ (fns:=fns) (n:=N) (fr:=fr) (lo:=lo) (h:=h) hov;have hlen:=hI.fl;have hko:∀q,oG q out=out:=λq=>by cases hI.told<;>rfl
 have ace:=λN fr lo h=>dJ (fns:=fns) (n:=N) (fr:=fr) (lo:=lo) (h:=h) hpk;have hc1:sK (.ofNat b) 255=false:=hb1;have hc2:sK (.ofNat b) 254=false:=hb2;refine⟨?aB,?lo2,?eq,?pi⟩
 case eq =>
  intro N;simp -implicitDefEqProofs only[sO,Tab.zQ,WW,aS,aZ,aK,aC.ev,aC.evs,bG,aF,bH,splice,bC,takeN,skip,bf,Nat.reduceAdd,Nat.beq,Nat.blt,Nat.ble,cO,dD,mV,eH,iK,eqK,nH,fU,gX,jU,OR.eU,LL9,Nat.reduceEqDiff,Nat.reduceLT,Nat.beq,hlen,hI.s2,hI.s3,hI.s16,hI.NZ,hI.s18,hI.b3,hsk,hi,hi3,Kt,hb1,hb2,hb3,ace,p0,p1,p2,p3,p4,p5,p6,p7,p8];rfl
 case pi =>
  constructor
  case b6 =>
   obtain⟨z,hz,hl⟩:=hI.b6;exact⟨z,by first|exact hz|(simp only[LL9,Nat.reduceEqDiff];exact hz),hl⟩
  case scr=>exact hI.scr
  case told=>exact hI.told
  all_goals simp only[LL9,Nat.reduceEqDiff,Nat.reduceLT,Nat.beq,hlen,hI.s1,hI.s2,hI.s3,hI.s6,hI.s9,hI.s16,hI.NZ,hko]
theorem ase(hI:PI fr lo h uT deep sc [w0,w1,w2,w3,w4,w5,w6,w7,w8] i es out)(hi:i<sc.length)(hb:∃rest,skip i sc=.agg [.int .u8 (.ofNat b)]::rest)(hi3:Nat.ble i 9223372036854775806=true)
  (hov:ay mm 26 [.agg [w0,w1,w2,w3,w4,w5,w6,w7,w8]]=some (.bool false)) (zX:bf [w0,w1,w2,w3,w4,w5,w6,w7,w8]=true) (hok:bf [x0,x1,x2,x3,x4,x5,x6,x7,x8]=true)
  (hb1:Nat.beq b 255=false) (hb2:Nat.beq b 254=false) (hb3:Nat.ble b 9223372036854775807=true) (hpk:ay mm 29 [.agg [w0,w1,w2,w3,w4,w5,w6,w7,w8],.int .i64 (.ofNat b),.int .i64 deep]=some (.tuple [.agg [x0,x1,x2,x3,x4,x5,x6,x7,x8],.agg [.int .i64 (.ofNat 2),.int .i64 (.ofNat t),.int .i64 (.ofNat n)]])) :
  ∃aB lo2,(∀N,runM mm fns (N+300) (.code sO) fr lo h=.norm aB lo2 h)/\PI aB lo2 h uT deep sc [x0,x1,x2,x3,x4,x5,x6,x7,x8] (i+1) es out:=by
 obtain⟨rest,hsk⟩:=hb;obtain rfl:=hI.scr.of hi;have hi:Nat.ble (i+1) sc.length=true:=dO hi;simp only[bf,ah,cZ]at hok zX;obtain⟨p0,p1,p2,p3,p4,p5,p6,p7,p8⟩:=hok;obtain⟨o0,o1,o2,o3,o4,o5,o6,o7,o8⟩:=zX;have Kt:=λN fr lo h=>dJ (fns:=fns) (n:=N) (fr:=fr) (lo:=lo) (h:=h) hov;have hlen:=hI.fl;have hko:∀q,oG q out=out:=λq=>by cases hI.told<;>rfl
 have ace:=λN fr lo h=>dJ (fns:=fns) (n:=N) (fr:=fr) (lo:=lo) (h:=h) hpk;have hc1:sK (.ofNat b) 255=false:=hb1;have hc2:sK (.ofNat b) 254=false:=hb2;refine⟨?aB,?lo2,?eq,?pi⟩
 case eq =>
  intro N;simp -implicitDefEqProofs only[sO,Tab.zQ,WW,aS,aZ,aK,aC.ev,aC.evs,bG,aF,bH,splice,bC,takeN,skip,bf,Nat.reduceAdd,Nat.beq,Nat.blt,Nat.ble,cO,dD,mV,eH,iK,eqK,nH,fU,gX,jU,OR.eU,LL9,Nat.reduceEqDiff,Nat.reduceLT,Nat.beq,hlen,hI.s2,hI.s3,hI.s16,hI.NZ,hI.s18,hI.b3,hsk,hi,hi3,Kt,hb1,hb2,hb3,ace,p0,p1,p2,p3,p4,p5,p6,p7,p8];rfl
 case pi =>
  constructor
  case b6 =>
   obtain⟨z,hz,hl⟩:=hI.b6;exact⟨z,by first|exact hz|(simp only[LL9,Nat.reduceEqDiff];exact hz),hl⟩
  case scr=>exact hI.scr
  case told=>exact hI.told
  all_goals simp only[LL9,Nat.reduceEqDiff,Nat.reduceLT,Nat.beq,hlen,hI.s1,hI.s2,hI.s3,hI.s6,hI.s9,hI.s16,hI.NZ,hko]
theorem am7(hI:PI fr lo h uT deep sc [w0,w1,w2,w3,w4,w5,w6,w7,w8] i es out)(hi:i<sc.length)(hb:∃rest,skip i sc=.agg [.int .u8 (.ofNat b)]::rest)(hi3:Nat.ble i 9223372036854775806=true)
  (hov:ay mm 26 [.agg [w0,w1,w2,w3,w4,w5,w6,w7,w8]]=some (.bool false)) (zX:bf [w0,w1,w2,w3,w4,w5,w6,w7,w8]=true) (hok:bf [x0,x1,x2,x3,x4,x5,x6,x7,x8]=true)
  (hbe:b=254) (hc:ay mm 28 [.agg [w0,w1,w2,w3,w4,w5,w6,w7,w8]]=some (.tuple [.agg [x0,x1,x2,x3,x4,x5,x6,x7,x8],.bool true])) :
  ∃aB lo2,(∀N,runM mm fns (N+300) (.code sO) fr lo h=.norm aB lo2 h)/\PI aB lo2 h uT deep sc [x0,x1,x2,x3,x4,x5,x6,x7,x8] (i+1) es out:=by
 obtain⟨rest,hsk⟩:=hb;obtain rfl:=hI.scr.of hi;have hi:Nat.ble (i+1) sc.length=true:=dO hi;simp only[bf,ah,cZ]at hok zX;obtain⟨p0,p1,p2,p3,p4,p5,p6,p7,p8⟩:=hok;obtain⟨o0,o1,o2,o3,o4,o5,o6,o7,o8⟩:=zX;have Kt:=λN fr lo h=>dJ (fns:=fns) (n:=N) (fr:=fr) (lo:=lo) (h:=h) hov;have hlen:=hI.fl;have hko:∀q,oG q out=out:=λq=>by cases hI.told<;>rfl
 have hcr:=λN fr lo h=>dJ (fns:=fns) (n:=N) (fr:=fr) (lo:=lo) (h:=h) hc;subst hbe;refine⟨?aB,?lo2,?eq,?pi⟩
 case eq =>
  intro N;simp -implicitDefEqProofs only[sO,Tab.zQ,WW,aS,aZ,aK,aC.ev,aC.evs,bG,aF,bH,splice,bC,takeN,skip,bf,Nat.reduceAdd,Nat.beq,Nat.blt,Nat.ble,cO,dD,mV,eH,iK,eqK,nH,fU,gX,jU,OR.eU,LL9,Nat.reduceEqDiff,Nat.reduceLT,Nat.beq,hlen,hI.s3,hI.s16,hI.NZ,hI.s18,hI.b3,hsk,hi,hi3,Kt,hcr,p0,p1,p2,p3,p4,p5,p6,p7,p8];rfl
 case pi =>
  constructor
  case b6 =>
   obtain⟨z,hz,hl⟩:=hI.b6;exact⟨z,by first|exact hz|(simp only[LL9,Nat.reduceEqDiff];exact hz),hl⟩
  case scr=>exact hI.scr
  case told=>exact hI.told
  all_goals simp only[LL9,Nat.reduceEqDiff,Nat.reduceLT,Nat.beq,hlen,hI.s1,hI.s2,hI.s3,hI.s6,hI.s9,hI.s16,hI.NZ,hko]
theorem aiu(hI:PI fr lo h uT deep sc [w0,w1,w2,w3,w4,w5,w6,w7,w8] i es out)(hi:i<sc.length)(hb:∃rest,skip i sc=.agg [.int .u8 (.ofNat b)]::rest)(hi3:Nat.ble i 9223372036854775806=true)
  (hov:ay mm 26 [.agg [w0,w1,w2,w3,w4,w5,w6,w7,w8]]=some (.bool false)) (zX:bf [w0,w1,w2,w3,w4,w5,w6,w7,w8]=true) (hok:bf [x0,x1,x2,x3,x4,x5,x6,x7,x8]=true)
  (hbe:b=255) (hc:ay mm 27 [.agg [w0,w1,w2,w3,w4,w5,w6,w7,w8]]=some (.tuple [.agg [x0,x1,x2,x3,x4,x5,x6,x7,x8],.aj])) :
  ∃aB lo2,(∀N,runM mm fns (N+300) (.code sO) fr lo h=.norm aB lo2 h)/\PI aB lo2 h uT deep sc [x0,x1,x2,x3,x4,x5,x6,x7,x8] (i+1) es out:=by
 obtain⟨rest,hsk⟩:=hb;obtain rfl:=hI.scr.of hi;have hi:Nat.ble (i+1) sc.length=true:=dO hi;simp only[bf,ah,cZ]at hok zX;obtain⟨p0,p1,p2,p3,p4,p5,p6,p7,p8⟩:=hok;obtain⟨o0,o1,o2,o3,o4,o5,o6,o7,o8⟩:=zX;have Kt:=λN fr lo h=>dJ (fns:=fns) (n:=N) (fr:=fr) (lo:=lo) (h:=h) hov;have hlen:=hI.fl;have hko:∀q,oG q out=out:=λq=>by cases hI.told<;>rfl
 have hcr:=λN fr lo h=>dJ (fns:=fns) (n:=N) (fr:=fr) (lo:=lo) (h:=h) hc;subst hbe;refine⟨?aB,?lo2,?eq,?pi⟩
 case eq =>
  intro N;simp -implicitDefEqProofs only[sO,Tab.zQ,WW,aS,aZ,aK,aC.ev,aC.evs,bG,aF,bH,splice,bC,takeN,skip,bf,Nat.reduceAdd,Nat.beq,Nat.blt,Nat.ble,cO,dD,mV,eH,iK,eqK,nH,fU,gX,jU,OR.eU,LL9,Nat.reduceEqDiff,Nat.reduceLT,Nat.beq,hlen,hI.s3,hI.s16,hI.NZ,hI.s18,hI.b3,hsk,hi,hi3,Kt,hcr,p0,p1,p2,p3,p4,p5,p6,p7,p8];rfl
 case pi =>
  constructor
  case b6 =>
   obtain⟨z,hz,hl⟩:=hI.b6;exact⟨z,by first|exact hz|(simp only[LL9,Nat.reduceEqDiff];exact hz),hl⟩
  case scr=>exact hI.scr
  case told=>exact hI.told
  all_goals simp only[LL9,Nat.reduceEqDiff,Nat.reduceLT,Nat.beq,hlen,hI.s1,hI.s2,hI.s3,hI.s6,hI.s9,hI.s16,hI.NZ,hko]
theorem aio(hI:PI fr lo h uT deep sc [w0,w1,w2,w3,w4,w5,w6,w7,w8] sc.length es out) :
  ∃aB lo2,(∀N,runM mm fns (N+300) (.code sO) fr lo h=.jump (.exit 0) aB lo2 h)/\PI aB lo2 h uT deep sc [w0,w1,w2,w3,w4,w5,w6,w7,w8] sc.length es out:=by
 have hi:Nat.ble (sc.length+1) sc.length=false:=tu (by omega);have hlen:=hI.fl;have hko:∀q,oG q out=out:=λq=>by cases hI.told<;>rfl
 have hks:∀q,oG q uT=uT:=λq=>by cases hI.scr<;>rfl
 refine⟨?aB,?lo2,?eq,?pi⟩
 case eq =>
  intro N;simp -implicitDefEqProofs only[sO,Tab.zQ,WW,aS,aZ,aK,aC.ev,bG,Nat.blt,cO,dD,eH,eqK,OR.eU,LL9,Nat.reduceLT,hlen,hI.NZ,hI.s18,hi];rfl
 case pi =>
  constructor
  case b6 =>
   obtain⟨z,hz,hl⟩:=hI.b6;exact⟨z,by first|exact hz|(simp only[LL9,Nat.reduceEqDiff,Nat.reduceLT,Nat.beq,hlen,hI.s1,hI.s2,hI.s3,hI.s6,hI.s9,hI.s16,hI.NZ,hI.s18,hI.b3,hko];exact hz),hl⟩
  case scr=>exact hI.scr
  case told=>exact hI.told
  all_goals simp only[LL9,Nat.reduceEqDiff,hlen,hI.s1,hI.s2,hI.s3,hI.s6,hI.s9,hI.s16,hI.NZ,hI.s18,hI.b3]
end
section
theorem IW{h:H}{j:Nat}{cs:List V}:getCells (h.new (.cells cs)) j=if h.next=j then some cs else getCells h j:=by
 unfold getCells;rw[H.rY];by_cases e:h.next=j
 .simp[e]
 .simp[e]
theorem aol{h:H}{es:List (Nat×Nat×Nat)}{out:V}(hT:Told h es out)(e:Nat×Nat×Nat)(hn:Nat.ble (es.length+1) 16777216=true) :
  ∃o2 h2,ou h 3 out 1 [jn e.1,jn e.2.1,jn e.2.2]=some (o2,h2)/\Told h2 (es++[e]) o2:=by
 have happ:evC (es++[e])=evC es++[jn e.1,jn e.2.1,jn e.2.2]:=by rw[O1];rfl
 cases hT with
 |nil =>
  refine⟨.hsl h.next 0 1 none 3,h.new (.cells [jn e.1,jn e.2.1,jn e.2.2]),rfl,?_⟩;exact Told.some (es:=[]++[e]) (by simp) (by rw[IW,if_pos rfl,happ];rfl) (Nat.lt_succ_self _)
 |@some es id hne hg hid =>
  refine⟨.hsl h.next 0 (es.length+1) none 3,(h.del id).new (.cells (evC es++[jn e.1,jn e.2.1,jn e.2.2])),?_,?_⟩
  .have h1:yC (es.length*3) (getCells h id) 0=some (evC es):=by
    rw[hg,<- O4];simp only[yC,skip,zh]
   have h2:Nat.ble es.length es.length=true:=by simp
   simp only[ou,Aq,bJ,h1,h2,Nat.beq,cond_false,cond_true,cZ,iJ,hn];rfl
  .rw[show es.length+1=(es++[e]).length by simp];refine Told.some (es:=es++[e]) (id:=h.next) (by simp) ?_ (by show h.next<h.next+1;omega);rw[show h.next=(h.del id).next from rfl,IW,if_pos rfl,happ]
variable {mm:eF}{fns:Nat->Option bF}{fr:List V}{lo:Lo}{h:H}{uT:V}{i b:Nat}{deep:Int}{sc:List V}{es:List (Nat×Nat×Nat)}{out:V}{w0 w1 w2 w3 w4 w5 w6 w7 w8 x0 x1 x2 x3 x4 x5 x6 x7 x8:V}{k t n:Nat}
theorem aAH{x y:aC}{a b c o2:V}{h2:H}(h1:x.ev fr=out)(h3:y.ev fr=.list [.agg [a,b,c]] true)(hk:bf [a,b,c]=true)(ha:ou h 3 out 1 [a,b,c]=some (o2,h2)):dN 3 x y fr lo h=.ok o2 lo h2:=by
 unfold dN;rw[h3,h1];have hs:bJ h 3 1 (.list [.agg [a,b,c]] true)=some [a,b,c]:=rfl;simp only[fH,bP,jS,iF,hs,hk,cond_true,ha,SK]
theorem ais(hI:PI fr lo h uT deep sc [w0,w1,w2,w3,w4,w5,w6,w7,w8] i es out)(hi:i<sc.length)(hb:∃rest,skip i sc=.agg [.int .u8 (.ofNat b)]::rest)(hb1:Nat.beq b 255=false)(hb2:Nat.beq b 254=false)(hb3:Nat.ble b 9223372036854775807=true)(hi3:Nat.ble i 9223372036854775806=true)
  (hov:ay mm 26 [.agg [w0,w1,w2,w3,w4,w5,w6,w7,w8]]=some (.bool false))
  (hpk:ay mm 29 [.agg [w0,w1,w2,w3,w4,w5,w6,w7,w8],.int .i64 (.ofNat b),.int .i64 deep]=some (.tuple [.agg [x0,x1,x2,x3,x4,x5,x6,x7,x8],.agg [.int .i64 (.ofNat k),.int .i64 (.ofNat t),.int .i64 (.ofNat n)]]))
  (hok:bf [x0,x1,x2,x3,x4,x5,x6,x7,x8]=true) (hk0:Nat.beq k 0=false) (hk1:Nat.beq k 1=false) (hk2:Nat.beq k 2=false) (hk3:Nat.beq k 3=false) (hk4:Nat.beq k 4=false) (hk5:Nat.beq k 5=false) (hel:Nat.ble (es.length+1) 16777216=true) :
  ∃aB lo2 h2 o2,(∀N,runM mm fns (N+300) (.code sO) fr lo h=.norm aB lo2 h2)/\PI aB lo2 h2 uT deep sc [x0,x1,x2,x3,x4,x5,x6,x7,x8] (i+1) (es++[(k,t,n)]) o2:=by
 obtain⟨rest,hsk⟩:=hb;obtain rfl:=hI.scr.of hi;have hi:Nat.ble (i+1) sc.length=true:=dO hi;simp only[bf,ah,cZ]at hok;obtain⟨p0,p1,p2,p3,p4,p5,p6,p7,p8⟩:=hok;have Kt:=λN fr lo h=>dJ (fns:=fns) (n:=N) (fr:=fr) (lo:=lo) (h:=h) hov;have ace:=λN fr lo h=>dJ (fns:=fns) (n:=N) (fr:=fr) (lo:=lo) (h:=h) hpk;have hlen:=hI.fl;have hko:oG 12 out=out:=by cases hI.told<;>rfl
 have hos:isVal out=true:=by cases hI.told<;>rfl
 have hol:wo out=false:=by cases hI.told<;>rfl
 have hc1:sK (.ofNat b) 255=false:=hb1;have hc2:sK (.ofNat b) 254=false:=hb2;have hq0:sK (.ofNat k) 0=false:=hk0;have hq1:sK (.ofNat k) 1=false:=hk1;have hq2:sK (.ofNat k) 2=false:=hk2;have hq3:sK (.ofNat k) 3=false:=hk3;have hq4:sK (.ofNat k) 4=false:=hk4;have hq5:sK (.ofNat k) 5=false:=hk5;obtain⟨o2,h2,hap,hT2⟩:=aol hI.told (k,t,n) hel;have ayS:=λ(fr:List V) (lo:Lo) (x y:aC) (q1:x.ev fr=out) (q2:y.ev fr=.list [.agg [jn k,jn t,jn n]] true)=>aAH (lo:=lo) q1 q2 rfl hap;unfold jn at ayS;refine⟨?aB,?lo2,h2,o2,?eq,?pi⟩
 case eq =>
  intro N;simp -implicitDefEqProofs only[sO,Tab.zQ,WW,aS,aZ,aK,aC.ev,aC.evs,bG,aF,bH,splice,bC,takeN,skip,bf,Nat.reduceAdd,Nat.beq,Nat.blt,Nat.ble,cO,dD,mV,eH,iK,eqK,nH,fU,gX,jU,OR.eU,LL9,Nat.reduceEqDiff,Nat.reduceLT,Nat.beq,hlen,hI.s2,hI.s3,hI.s9,hI.s16,hI.NZ,hI.s18,hI.b3,hsk,hi,hb1,hb2,hb3,hi3,Kt,ace,p0,p1,p2,p3,p4,p5,p6,p7,p8,hk0,hk1,hk2,hk3,hk4,hk5,hko,ayS,rep,chunk,elemOf];rfl
 case pi =>
  constructor
  case b6 =>
   obtain⟨z,hz,hl⟩:=hI.b6;exact⟨z,by simp only[LL9,Nat.reduceEqDiff];exact hz,hl⟩
  case scr=>exact hI.scr
  case told=>exact hT2
  all_goals simp only[LL9,Nat.reduceEqDiff,Nat.reduceLT,Nat.beq,hlen,hI.s1,hI.s2,hI.s3,hI.s6,hI.s16,hI.NZ]
end
section
variable {mm:eF}{fns:Nat->Option bF}{fr:List V}{lo:Lo}{h:H}{uT:V}{i b:Nat}{deep:Int}{sc:List V}{es:List (Nat×Nat×Nat)}{out:V}{w0 w1 w2 w3 w4 w5 w6 w7 w8 x0 x1 x2 x3 x4 x5 x6 x7 x8:V}{k t n:Nat}
structure PE (fr:List V)(lo:Lo)(i:Nat)(cW:List V)(out:V):Prop where
 s6:aA fr 6=.aY 6 0
 s7:aA fr 7=out
 s8:aA fr 8=.int .i64 (.ofNat i)
 b6:dA lo 6=some cW
theorem aiq(hI:PI fr lo h uT deep sc [w0,w1,w2,w3,w4,w5,w6,w7,w8] i es out)(hi:i<sc.length)(hb:∃rest,skip i sc=.agg [.int .u8 (.ofNat b)]::rest)
  (hov:ay mm 26 [.agg [w0,w1,w2,w3,w4,w5,w6,w7,w8]]=some (.bool true))
  (hok:bf [w0,w1,w2,w3,w4,w5,w6,w7,w8]=true) :
  ∃aB lo2,(∀N,runM mm fns (N+300) (.code sO) fr lo h=.jump .ret aB lo2 h)/\PE aB lo2 i [w0,w1,w2,w3,w4,w5,w6,w7,w8] out:=by
 obtain⟨rest,hsk⟩:=hb;obtain rfl:=hI.scr.of hi;have hi:Nat.ble (i+1) sc.length=true:=dO hi;simp only[bf,ah,cZ]at hok;obtain⟨p0,p1,p2,p3,p4,p5,p6,p7,p8⟩:=hok;have Kt:=λN fr lo h=>dJ (fns:=fns) (n:=N) (fr:=fr) (lo:=lo) (h:=h) hov;have hlen:=hI.fl;have hos:isVal out=true:=by cases hI.told<;>rfl
 have hol:wo out=false:=by cases hI.told<;>rfl
 obtain⟨z,hz,hzl⟩:=hI.b6
 match z,hzl with
 |[z0,z1,z2,z3,z4,z5,z6,z7,z8],_ =>
  refine⟨?aB,?lo2,?eq,?pe⟩
  case eq =>
   intro N;simp -implicitDefEqProofs only[sO,Tab.zQ,WW,aS,aZ,aK,aC.ev,aC.evs,bG,aF,bH,splice,bC,takeN,skip,bf,Nat.reduceAdd,Nat.beq,Nat.blt,cO,dD,eH,eqK,OR.eU,LL9,Nat.reduceEqDiff,Nat.reduceLT,Nat.beq,hlen,hI.s3,hI.s6,hI.s9,hI.s16,hI.NZ,hI.s18,hI.b3,hz,hsk,hi,Kt,p0,p1,p2,p3,p4,p5,p6,p7,p8];rfl
  case pe =>
   constructor
   all_goals first|(simp only[LL9,Nat.reduceEqDiff,Nat.reduceLT,hlen,hI.s6];done)|simp only[DC]
theorem air(hI:PI fr lo h uT deep sc [w0,w1,w2,w3,w4,w5,w6,w7,w8] sc.length es out)(hok:bf [w0,w1,w2,w3,w4,w5,w6,w7,w8]=true) :
  ∃aB lo2,(∀N,runM mm fns (N+100) (.code Uo) fr lo h=.jump .ret aB lo2 h)/\PE aB lo2 sc.length [w0,w1,w2,w3,w4,w5,w6,w7,w8] out:=by
 simp only[bf,ah,cZ]at hok;obtain⟨p0,p1,p2,p3,p4,p5,p6,p7,p8⟩:=hok;have hlen:=hI.fl;have hos:isVal out=true:=by cases hI.told<;>rfl
 have hol:wo out=false:=by cases hI.told<;>rfl
 obtain⟨z,hz,hzl⟩:=hI.b6
 match z,hzl with
 |[z0,z1,z2,z3,z4,z5,z6,z7,z8],_ =>
  rcases hI.scr.two with rfl|⟨rfl,rfl⟩
  .refine⟨?fra,?loa,?eqa,?pea⟩
   case eqa =>
    intro N;simp -implicitDefEqProofs only[Uo,Tab.zQ,WW,aS,aZ,aK,aC.ev,bG,aF,bH,splice,bC,takeN,skip,bf,Nat.reduceAdd,Nat.beq,LL9,Nat.reduceEqDiff,Nat.reduceLT,Nat.beq,hlen,hI.s1,hI.s3,hI.s6,hI.s9,hI.b3,hz,p0,p1,p2,p3,p4,p5,p6,p7,p8];rfl
   case pea=>constructor<;>first|rfl|simp only[LL9,Nat.reduceEqDiff,Nat.reduceLT,hlen,hI.s6]
  .refine⟨?frb,?lob,?eqb,?peb⟩
   case eqb =>
    intro N;simp -implicitDefEqProofs only[Uo,Tab.zQ,WW,aS,aZ,aK,aC.ev,bG,aF,bH,splice,bC,takeN,skip,bf,Nat.reduceAdd,Nat.beq,LL9,Nat.reduceEqDiff,Nat.reduceLT,Nat.beq,hlen,hI.s1,hI.s3,hI.s6,hI.s9,hI.b3,hz,p0,p1,p2,p3,p4,p5,p6,p7,p8];rfl
   case peb=>constructor<;>first|rfl|(simp only[LL9,Nat.reduceEqDiff,Nat.reduceLT,hlen,hI.s6];done)|(simp only[LL9,Nat.reduceLT,hlen];rfl)
end
section
variable {mm:eF}{fns:Nat->Option bF}{fr:List V}{lo:Lo}{h:H}{uT:V}{i b:Nat}{deep:Int}{sc:List V}{es:List (Nat×Nat×Nat)}{out:V}
def tell(es:List (Nat×Nat×Nat))(e:Nat×Nat×Nat):List (Nat×Nat×Nat):=if e.1<=2 then es else es++[e]
theorem aaY(es:List (Nat×Nat×Nat))(e:Nat×Nat×Nat):(tell es e).length<=es.length+1:=by
 unfold tell
 split
 .omega
 .simp
inductive Way (mm:eF)(deep:Int)(sc:List V):Nat->List V->List (Nat×Nat×Nat)->Nat->List V->List (Nat×Nat×Nat)->Prop
 |stop {i b:Nat} {c:List V} {es:List (Nat×Nat×Nat)} (hi:i<sc.length) (hb:∃rest,skip i sc=.agg [.int .u8 (.ofNat b)]::rest) (hc:c.length=9) (hok:bf c=true)
   (hov:ay mm 26 [.agg c]=some (.bool true)):Way mm deep sc i c es i c es
 |done {c:List V} {es:List (Nat×Nat×Nat)} (hc:c.length=9) (hok:bf c=true):Way mm deep sc sc.length c es sc.length c es
 |step {i b j:Nat} {c c2 c3:List V} {es es3:List (Nat×Nat×Nat)} {e:Nat×Nat×Nat} (hi:i<sc.length) (hi2:i<100000) (hel:es.length<100000) (hb:∃rest,skip i sc=.agg [.int .u8 (.ofNat b)]::rest) (hb2:b<254) (hc:c.length=9) (hc2:c2.length=9) (hok0:bf c=true) (hok:bf c2=true)
   (hov:ay mm 26 [.agg c]=some (.bool false))
   (hpk:ay mm 29 [.agg c,.int .i64 (.ofNat b),.int .i64 deep]=some (.tuple [.agg c2,Yz e]))
   (hk:e.1≠3/\e.1≠4/\e.1≠5) (hw:Way mm deep sc (i+1) c2 (tell es e) j c3 es3):Way mm deep sc i c es j c3 es3
 |idle {i b j:Nat} {c c2 c3:List V} {es es3:List (Nat×Nat×Nat)} (hi:i<sc.length) (hi2:i<100000) (hb:∃rest,skip i sc=.agg [.int .u8 (.ofNat b)]::rest) (hc:c.length=9) (hc2:c2.length=9) (hok0:bf c=true) (hok:bf c2=true)
   (hov:ay mm 26 [.agg c]=some (.bool false))
   (hq:(b=254/\ay mm 28 [.agg c]=some (.tuple [.agg c2,.bool true]))\/(b=255/\ay mm 27 [.agg c]=some (.tuple [.agg c2,.aj])))
   (hw:Way mm deep sc (i+1) c2 es j c3 es3):Way mm deep sc i c es j c3 es3
theorem aip{c c3:List V}{es3:List (Nat×Nat×Nat)}{j:Nat}(hw:Way mm deep sc i c es j c3 es3):∀{fr:List V} {lo:Lo} {h:H} {out:V},PI fr lo h uT deep sc c i es out ->
  ∃N aB lo2 h2 KQ r,(∀n,N<=n->runM mm fns n (.code (.loop sO)) fr lo h=.jump r aB lo2 h2)/\((r=.ret/\PE aB lo2 j c3 KQ)\/(r=.exit 0/\j=sc.length/\PI aB lo2 h2 uT deep sc c3 sc.length es3 KQ))/\Told h2 es3 KQ/\bf c3=true/\c3.length=9:=by
 induction hw with
 |@stop i b c es hi hb hc hok hov =>
  intro fr lo h out hI
  match c,hc with
  |[w0,w1,w2,w3,w4,w5,w6,w7,w8],_ =>
   obtain⟨b1,hb1⟩:=hb;obtain⟨aB,lo2,h1,h2⟩:=aiq (fns:=fns) hI hi ⟨_,hb1⟩ hov hok;refine⟨301,aB,lo2,h,out,_,λn hn=>?_,.inl ⟨rfl,h2⟩,hI.told,hok,rfl⟩;obtain⟨q,rfl⟩:∃q,n=q+300+1:=⟨n-301,by omega⟩;rw[dR];simp only[aS,h1,qP]
 |@done c es hc hok =>
  intro fr lo h out hI
  match c,hc with
  |[w0,w1,w2,w3,w4,w5,w6,w7,w8],_ =>
   obtain⟨aB,lo2,h1,h2⟩:=aio (mm:=mm) (fns:=fns) hI;refine⟨301,aB,lo2,h,out,_,λn hn=>?_,.inr ⟨rfl,rfl,h2⟩,hI.told,hok,rfl⟩;obtain⟨q,rfl⟩:∃q,n=q+300+1:=⟨n-301,by omega⟩;rw[dR];simp only[aS,h1,qP]
 |@step i b j c c2 c3 es es3 e hi hi2 hel hb hb2 hc hc2 hok0 hok hov hpk hk hw ih =>
  intro fr lo h out hI
  match c,hc,c2,hc2 with
  |[w0,w1,w2,w3,w4,w5,w6,w7,w8],_,[x0,x1,x2,x3,x4,x5,x6,x7,x8],_ =>
   have q1:Nat.beq b 255=false:=iH (by omega);have q2:Nat.beq b 254=false:=iH (by omega);have q3:Nat.ble b 9223372036854775807=true:=by simp;omega
   have q4:Nat.ble i 9223372036854775806=true:=by simp;omega
   have q5:Nat.ble (es.length+1) 16777216=true:=by simp;omega
   have k3:=iH hk.1;have k4:=iH hk.2.1;have k5:=iH hk.2.2;have hone:∃aB lo2 h2 o2,(∀N,runM mm fns (N+300) (.code sO) fr lo h=.norm aB lo2 h2)/\PI aB lo2 h2 uT deep sc [x0,x1,x2,x3,x4,x5,x6,x7,x8] (i+1) (tell es e) o2:=by
    obtain⟨k,t,n⟩:=e;by_cases hq:k<=2
    .have:tell es (k,t,n)=es:=by simp[tell,hq]
     rw[this];rcases(show k=0\/k=1\/k=2 from by omega)with rfl|rfl|rfl
     .obtain⟨aB,lo2,h1,h2⟩:=asb (fns:=fns) hI hi hb q4 hov hok0 hok q1 q2 q3 hpk;exact⟨aB,lo2,h,out,h1,h2⟩
     .obtain⟨aB,lo2,h1,h2⟩:=asc (fns:=fns) hI hi hb q4 hov hok0 hok q1 q2 q3 hpk;exact⟨aB,lo2,h,out,h1,h2⟩
     .obtain⟨aB,lo2,h1,h2⟩:=ase (fns:=fns) hI hi hb q4 hov hok0 hok q1 q2 q3 hpk;exact⟨aB,lo2,h,out,h1,h2⟩
    .have:tell es (k,t,n)=es++[(k,t,n)]:=by simp[tell,hq]
     rw[this];exact ais (fns:=fns) hI hi hb q1 q2 q3 q4 hov hpk hok (iH (by omega)) (iH (by omega)) (iH (by omega)) k3 k4 k5 q5
   obtain⟨aB,lo2,h2,o2,h1,hI2⟩:=hone;obtain⟨N,AX,lo3,h3,o3,r,g1,g2⟩:=ih hI2;refine⟨N+301,AX,lo3,h3,o3,r,λn hn=>?_,g2⟩;obtain⟨q,rfl⟩:∃q,n=q+300+1:=⟨n-301,by omega⟩;rw[dR];simp only[aS,h1,iR];exact g1 (q+300) (by omega)
 |@idle i b j c c2 c3 es es3 hi hi2 hb hc hc2 hok0 hok hov hq hw ih =>
  intro fr lo h out hI
  match c,hc,c2,hc2 with
  |[w0,w1,w2,w3,w4,w5,w6,w7,w8],_,[x0,x1,x2,x3,x4,x5,x6,x7,x8],_ =>
   have q4:Nat.ble i 9223372036854775806=true:=by simp;omega
   obtain⟨aB,lo2,h1,hI2⟩:∃aB lo2,(∀N,runM mm fns (N+300) (.code sO) fr lo h=.norm aB lo2 h)/\PI aB lo2 h uT deep sc [x0,x1,x2,x3,x4,x5,x6,x7,x8] (i+1) es out:=by
    rcases hq with⟨q1,q2⟩|⟨q1,q2⟩
    .exact am7 (fns:=fns) hI hi hb q4 hov hok0 hok q1 q2
    .exact aiu (fns:=fns) hI hi hb q4 hov hok0 hok q1 q2
   obtain⟨N,AX,lo3,h3,o3,r,g1,g2⟩:=ih hI2;refine⟨N+301,AX,lo3,h3,o3,r,λn hn=>?_,g2⟩;obtain⟨q,rfl⟩:∃q,n=q+300+1:=⟨n-301,by omega⟩;rw[dR];simp only[aS,h1,iR];exact g1 (q+300) (by omega)
end
section
variable {mm:eF}{fns:Nat->Option bF}{h:H}{deep:Int}{sc:List V}{es:List (Nat×Nat×Nat)}{out:V}
def evL(es:List (Nat×Nat×Nat)):V:=match es with|[]=>.aj|e::es=>.list ((e::es).map Yz) false
theorem Yd:∀es,chunk 3 es.length (evC es)=some (es.map Yz)
 |[]=>rfl
 |e::es=>by
  have:chunk 3 es.length (skip 3 (evC (e::es)))=some (es.map Yz):=Yd es;simp only[bP,chunk,this];rfl
theorem aeM:∀(es:List (Nat×Nat×Nat)) (n:Nat) (h:H),dF (n+es.length) (es.map Yz) h=(es.map Yz,h)
 |[],n,h=>Pq _ _
 |e::es,n,h=>by
  have h1:sU [jn e.1,jn e.2.1,jn e.2.2]=true:=rfl;have h2:dF (n+es.length+1) (Yz e::es.map Yz) h=(match dF (n+es.length) [jn e.1,jn e.2.1,jn e.2.2] h with|(cs,h)=>kQ (.agg cs) (dF (n+es.length) (es.map Yz) h)):=rfl;rw[bD,bP,<- gq,h2,uS _ h h1];dsimp only;rw[aeM es n h];rfl
theorem alb{c:List V}{j:Nat}(hp:sU c=true)(hT:Told h es out)(hl:es.length<=200000) :
  ∃h2,qo (.tuple [.agg c,out,jn j]) h=(.tuple [.agg c,evL es,jn j],h2):=by
 have e1:dF (999999+1) [.tuple [.agg c,out,jn j]] h=(match dF (999998+1) [.agg c,out,jn j] h with|(cs,h)=>kQ (.tuple cs) (dF 999999 [] h)):=rfl;have e2:dF (999998+1) [.agg c,out,jn j] h=(match dF 999998 c h with|(cs,h)=>kQ (.agg cs) (dF 999998 [out,jn j] h)):=rfl;unfold qo;rw[show(1000000:Nat)=999999+1 from rfl,e1,e2,uS _ h hp];dsimp only;cases hT with
 |nil =>
  have h1:sU [.aj,jn j]=true:=rfl;rw[uS _ h h1];exact⟨h,rfl⟩
 |@some es id hne hg hid =>
  refine⟨h.del id,?_⟩;have e3:dF (999997+1) [.hsl id 0 es.length none 3,jn j] h=(match h.get id with
   |some (.cells cs)=>(match chunk 3 es.length (skip 0 cs)with
    |some xs=>(match dF 999997 xs (h.del id)with
     |(xs,h)=>kQ (.list xs false) (dF 999997 [jn j] h))
    |none=>kQ (.hsl id 0 es.length none 3) (dF 999997 [jn j] h))
   |_=>kQ (.hsl id 0 es.length none 3) (dF 999997 [jn j] h)):=rfl
  have e4:dF 999997 (es.map Yz) (h.del id)=(es.map Yz,h.del id):=by
   have:=aeM es (999997-es.length) (h.del id)
   rwa[Nat.sub_add_cancel (by omega)]at this
  have e5:skip 0 (evC es)=evC es:=rfl;have h1:sU [jn j]=true:=rfl;rw[show(999998:Nat)=999997+1 from rfl,e3,jq hg];dsimp only;rw[e5,Yd];dsimp only;rw[e4];dsimp only;rw[uS _ _ h1]
  match es,hne with
  |e::es,_=>rfl
end
section
variable {mm:eF}{fns:Nat->Option bF}{h:H}{uT:V}{deep:Int}{sc:List V}{es:List (Nat×Nat×Nat)}{out:V}
variable {w0 w1 w2 w3 w4 w5 w6 w7 w8:V}{F:List V}{L D:aN}
theorem adt(hF:F.length=91)(f0:aA F 0=.agg [w0,w1,w2,w3,w4,w5,w6,w7,w8])(f1:aA F 1=uT)(Gy:Scr sc uT)(f2:aA F 2=.int .i64 deep) :
  ∃fr lo,(∀N,runM mm fns (N+100) (.code (.seq (.region [.op (some 3) (.CJ (.tmp 0)),.op (some 6) (.alloc [.aj,.aj,.aj,.int .i64 0,.aj,.int .i64 0,.aj,.aj,.aj]),.op (some 7) (.mv (.const .aj)),.op (some 8) (.mv (.const (.int .i64 0)))])
   (.seq (.region [.op (some 9) (.mv (.const .aj))]) (.seq (.seq (.region [.op (some 16) (.mv (.tmp 1)),.op (some 17) (.len 0 (.tmp 16)),.op (some 18) (.mv (.const (.int .i64 0)))]) (.block 0 L)) D)))) F [] h
    = jC (runM mm fns (N+97)) D (iw 0 (aS (runM mm fns (N+94)) L fr lo h)))/\PI fr lo h uT deep sc [w0,w1,w2,w3,w4,w5,w6,w7,w8] 0 [] .aj:=by
 rcases Gy.two with rfl|⟨rfl,rfl⟩
 .refine⟨?fra,?loa,?eqa,?pia⟩
  case eqa =>
   intro N;simp -implicitDefEqProofs only[WW,dX,jX,jK,aZ,aK,aC.ev,bG,eP,Nat.beq,LL9,Nat.reduceEqDiff,Nat.reduceLT,Nat.beq,hF,f0,f1];rfl
  case pia =>
   constructor
   case b6=>exact⟨_,rfl,rfl⟩
   case scr=>exact Gy
   case told=>exact .nil
   all_goals first|rfl|(simp only[LL9,Nat.reduceEqDiff,Nat.reduceLT,Nat.beq,hF,f1,f2];done)|(simp only[LL9,Nat.reduceEqDiff,Nat.reduceLT,Nat.beq,hF,f0,f1,f2];rfl)
 .refine⟨?frb,?lob,?eqb,?pib⟩
  case eqb =>
   intro N;simp -implicitDefEqProofs only[WW,dX,jX,jK,aZ,aK,aC.ev,bG,eP,Nat.beq,LL9,Nat.reduceEqDiff,Nat.reduceLT,Nat.beq,hF,f0,f1];rfl
  case pib =>
   constructor
   case b6=>exact⟨_,rfl,rfl⟩
   case scr=>exact Gy
   case told=>exact .nil
   all_goals first|rfl|(simp only[LL9,Nat.reduceEqDiff,Nat.reduceLT,Nat.beq,hF,f1,f2];done)|(simp only[LL9,Nat.reduceEqDiff,Nat.reduceLT,hF];rfl)
theorem ain{c c3:List V}{es3:List (Nat×Nat×Nat)}{j:Nat}(hc:c.length=9)(hok:bf c=true)(hl3:c3.length=9)(hp:sU c3=true)(hl:es3.length<=200000)(hrec:∀a,ay mm 13 a=none)(hfn:fns 13=some Tab.zQ)
  (hw:Way mm deep sc 0 c [] j c3 es3) (Gy:Scr sc uT) :
  ∃N h2,(∀n,N<=n->runM mm fns n (.call 13 [.agg c,uT,.int .i64 deep]) [] [] h=.val (.tuple [.agg c3,evL es3,jn j]) h2):=by
 match c,hc with
 |[w0,w1,w2,w3,w4,w5,w6,w7,w8],_ =>
  obtain⟨F,hFe⟩:∃F,F=pad 91 [.agg [w0,w1,w2,w3,w4,w5,w6,w7,w8],uT,.int .i64 deep]:=⟨_,rfl⟩;have hbody:(Tab.zQ).body=.seq (.region [.op (some 3) (.CJ (.tmp 0)),.op (some 6) (.alloc [.aj,.aj,.aj,.int .i64 0,.aj,.int .i64 0,.aj,.aj,.aj]),.op (some 7) (.mv (.const .aj)),.op (some 8) (.mv (.const (.int .i64 0)))])
   (.seq (.region [.op (some 9) (.mv (.const .aj))]) (.seq (.seq (.region [.op (some 16) (.mv (.tmp 1)),.op (some 17) (.len 0 (.tmp 16)),.op (some 18) (.mv (.const (.int .i64 0)))]) (.block 0 (.loop sO))) Uo)):=rfl
  obtain⟨fr,lo,hst,hI⟩:=adt (mm:=mm) (fns:=fns) (h:=h) (uT:=uT) (deep:=deep) (sc:=sc) (F:=F) (L:=.loop sO) (D:=Uo) (by rw[hFe];rfl) (by rw[hFe];rfl) (by rw[hFe];rfl) Gy (by rw[hFe];rfl);obtain⟨N,aB,lo2,h2,KQ,hrun,hE,hT⟩:∃N aB lo2 h2 KQ,(∀n,N<=n->jC (runM mm fns (n+97)) Uo (iw 0 (aS (runM mm fns (n+94)) (.loop sO) fr lo h))=.jump .ret aB lo2 h2)/\PE aB lo2 j c3 KQ/\Told h2 es3 KQ:=by
   obtain⟨N,aB,lo2,h2,KQ,r,hrun,hr,hT,aCl,hl3⟩:=aip (fns:=fns) hw hI;rcases hr with⟨rfl,hE⟩|⟨rfl,rfl,hP⟩
   .refine⟨N,aB,lo2,h2,KQ,λn hn=>?_,hE,hT⟩;rw[<- dR,hrun _ (by omega),PV,qP]
   .match c3,hl3 with
    |[x0,x1,x2,x3,x4,x5,x6,x7,x8],_ =>
     obtain⟨AX,lo3,e3,hE⟩:=air (mm:=mm) (fns:=fns) hP aCl;refine⟨N+10,AX,lo3,h2,KQ,λn hn=>?_,hE,hT⟩;obtain⟨q,rfl⟩:∃q,n=q+3:=⟨n-3,by omega⟩;rw[<- dR,hrun _ (by omega),iO,show Nat.beq 0 0=true from rfl,cond_true,iR];exact e3 q
  obtain⟨h3,hf⟩:=alb (j:=j) hp hT hl;have hres:(Tab.zQ).results=[(6,true,true,9),(7,false,false,0),(8,false,false,0)]:=rfl;have hfz:(Tab.zQ).qo=true:=rfl;have hnt:(Tab.zQ).nt=91:=rfl;have hleave:wC Tab.zQ (.jump .ret aB lo2 h2)=.val (.tuple [.agg c3,evL es3,jn j]) h3:=by
   have ht:takeN 9 c3=some c3:=zh hl3.symm;have hil:bK KQ=false:=by cases hT<;>rfl
   show finish Tab.zQ (resV aB lo2 h2 (Tab.zQ).results) h2=_;rw[hres];simp only[resV,hE.s6,hE.s7,hE.s8,hE.b6,aF,skip,mk,ht,cond_true,cond_false,show bK (.agg c3)=false from rfl,show bK (.int .i64 (.ofNat j))=false from rfl,hil];unfold jn at hf;simp only[finish,hfz,cond_true,dI,hf];rfl
  refine⟨N+300,h3,λn hn=>?_⟩;obtain⟨q,rfl⟩:∃q,n=(N+q)+100+1:=⟨n-101-N,by omega⟩;rw[bn (hrec _) hfn rfl,hbody,hnt,<- hFe,hst,hrun _ (by omega)];exact hleave
end
section
variable {w0 w1 w4 w5 w6 w8 t0 t2 t4 t5 t6 t7 t8 t9 t10:V}{ns rest:List V}{most:Int}{k p:Nat}{v:V}
theorem aBB(hg:wB ns=true)(hl:ns.length<=100000)(h:JO ns 3 p=some v):ay mmB 88 [.agg [.list ns false,.int .i64 most],.int .i64 (.ofNat p)]=some v:=by
 show atS [.agg [.list ns false,.int .i64 most],.int .i64 (.ofNat p)]=some v;have hh:AB (.agg [.list ns false,.int .i64 most])=some (ns,most):=rfl;have hn:jw (.int .i64 (.ofNat p))=some p:=rfl;simp only[atS,hh,hn,hg,dO hl,aU,cond_true];exact h
theorem aoT(hg:wB ns=true)(hl:ns.length<=100000)(h:JO ns 3 p=some v)
  (zX:bf [w0,w1,w4,w5,w6,w8]=true) (Nc:bf [t0,t2,t4,t5,t6,t7,t8,t9,t10]=true)
  (hf:aW [.agg [w0,w1,.list ns false,.int .i64 most,w4,w5,w6,.list (.agg [t0,.int .i64 (.ofNat k),t2,.int .i64 (.ofNat p),t4,t5,t6,t7,t8,t9,t10]::rest) false,w8],jn 0]=true) :
  EvB 91 [.agg [w0,w1,.list ns false,.int .i64 most,w4,w5,w6,.list (.agg [t0,.int .i64 (.ofNat k),t2,.int .i64 (.ofNat p),t4,t5,t6,t7,t8,t9,t10]::rest) false,w8],jn 0] (.bool false):=by
 have hat:=λN fr lo h2=>dJ (fns:=oC) (n:=N) (fr:=fr) (lo:=lo) (h:=h2) (aBB (most:=most) hg hl h);obtain⟨q,js,_,_,hk,_,rfl⟩:=IV h;obtain⟨K,Nn,nm,ks⟩:=tJ ns q;have hc:=(rZ hk).2.2;simp only[bf,ah,cZ]at zX Nc;obtain⟨o0,o1,o4,o5,o6,o8⟩:=zX;obtain⟨q0,q2,q4,q5,q6,q7,q8,q9,q10⟩:=Nc;have hlt:Nat.ble (k+1) 0=false:=rfl;refine⟨hf,rfl,300,λm hm=>⟨emp,?_⟩⟩;obtain⟨N,rfl⟩:∃N,m=N+300:=⟨m-300,by omega⟩;rw[bn (show ay mmB 91 _=none from rfl) (show oC 91=some Tab.aoO from rfl) rfl];rcases hc with⟨hc,_⟩|⟨e,hc⟩
 .simp only[hc]at hat
  unfold nd jn at *;simp -implicitDefEqProofs only[Tab.aoO,WW,aS,aZ,aK,pad,aC.ev,aC.evs,fJ,bG,aF,dA,eP,bH,splice,bC,takeN,skip,bf,bK,Nat.reduceAdd,Nat.beq,Nat.blt,Nat.ble,finish,resV,dI,cO,dD,eH,eqK,OR.eU,hat,q2,q4];rfl
 .simp only[hc]at hat
  unfold nd jn at *;simp -implicitDefEqProofs only[Tab.aoO,WW,aS,aZ,aK,pad,aC.ev,aC.evs,fJ,bG,aF,dA,eP,bH,splice,bC,takeN,skip,bf,bK,Nat.reduceAdd,Nat.beq,Nat.blt,Nat.ble,finish,resV,dI,cO,dD,eH,eqK,OR.eU,hat,q2,q4];rfl
end
section
structure WM (mm:eF):Prop where
 over:∀a v,EvA D5 mY 26 a v->ay mm 26 a=some v
 pick:∀a v,EvA D5 mY 29 a v->ay mm 29 a=some v
 tick:∀a v,EvA D5 mY 27 a v->ay mm 27 a=some v
 col:∀a v,colS a=some v->ay mm 28 a=some v
theorem yV{v:V}(h:fM v=true):qW v=true:=by cases v<;>first|rfl|cases h
theorem am6{v:V}(h:fM v=true):Fv v=true:=by cases v<;>first|rfl|cases h
theorem aai{v:V}{l:List V}(h:fM v=true)(h2:sU l=true):sU (v::l)=true:=by
 show(Bool.rec (motive:=λ_=>Bool) false (sU l) (Fv v))=true;rw[am6 h];exact h2
theorem sD:∀{l:List V},(∀v∈l,fM v=true)->bf l=true
 |[],_=>rfl
 |v::l,h=>by
  simp only[bf,ah];exact⟨yV (h v bZ),sD λx hx=>h x (bW _ hx)⟩
theorem Gm:∀{l:List V},(∀v∈l,fM v=true)->sU l=true
 |[],_=>rfl
 |v::l,h=>aai (h v bZ) (Gm λx hx=>h x (bW _ hx))
theorem Pj:∀{l:List V},aW l=true->∀c∈l,aO c=true
 |[],_,c,hc=>by simp at hc
 |v::l,h,c,hc=>by
  simp only[aW,ah]at h;rcases bU.1 hc with rfl|hc
  .exact h.1
  .exact Pj h.2 c hc
theorem QL:∀{bs:List Bool} {u t:Nat},t∈runs bs u->∃i,t=u+i/\bs[i]?=some true
 |[],u,t,h=>by simp[runs]at h
 |true::bs,u,t,h=>by
  simp only[runs,cond_true,bU]at h;rcases h with rfl|h
  .exact⟨0,rfl,rfl⟩
  .obtain⟨i,h1,h2⟩:=QL h;exact⟨i+1,by omega,h2⟩
 |false::bs,u,t,h=>by
  simp only[runs,cond_false]at h;obtain⟨i,h1,h2⟩:=QL h;exact⟨i+1,by omega,h2⟩
structure Ec (Y:Rws):Prop where
 x0:∀t k,t<=Y.n->k<=Y.K t->aA (Y.R t k).x 0=jn (if k=Y.K t then 3 else 1)
 x11:∀t k,t<=Y.n->k<=Y.K t->(Y.R t k).x.length=11
 pops:fM Y.C.ops=true
 Uk:fM Y.C.defs=true
 mn1:∀k,k<=Y.K 0->0<Y.mn k
 kpos:∀t,t<=Y.n->0<Y.K t
 nB:Y.n<=Y.B/\Y.n<=100
 pr:∀t k,t<=Y.n->k<Y.K t->Y.pr t k=if k+1=Y.K t then some t else none
 wt:∀k,k<Y.K 0->(∃o p,aA (Y.R 0 k).x 1=jn o/\aA (Y.R 0 k).x 3=jn p/\p<Y.C.D)\/nY (nZ (TY (Y.R 0 k).l Y.C.D Y.C.most (RN Y.C)) oC 1000000 (.call 91 [JK Y.C (Y.R 0 k).l (D6 0 (Y.R 0 k).x 0 (Y.mn k)) XM,jn 0]) zW bx0 emp) (.bool false)=true
 inn:∀t k m,t<=Y.n->k<Y.K t->(t=0->m=Y.mn k)->(t≠0->t<m/\m<=Y.n+1)->nY (nZ (TY (Y.R t k).l Y.C.D Y.C.most (RN Y.C)) oC 1000000 (.call 73 [JK Y.C (Y.R t k).l (D6 t (Y.R t k).x 0 m) XM,jn t]) zW bx0 emp) (.bool false)=true
 col:∀t k,t<=Y.n->k<=Y.K t->akx Y.C.D (Y.R t k)=true
 aAf:∀k,k<=Y.K 0->Y.mn k=1->∀d,d<Y.C.D->∃q,kU (Y.R 0 k).l 2 d=some q
 aAg:1<=Y.n->∀k,k<=Y.K 1->∀d,d<Y.C.D->∃q,kU (Y.R 1 k).l 2 d=some q
 may:∀t k,t<=Y.n->k<Y.K t->TW (Y.res t k).l.length (Y.res t k).l=true/\(Y.R t k).l.length<=(Y.res t k).l.length
 pat:∀bs:List Bool,bs.length<=Y.n+1->WU bs=true
 cst:∃ds ed most,0<Y.C.D/\Y.C.D<=1000/\Y.C.defs=.list ds ed/\ds.length=Y.C.D/\Y.C.most=Int.ofNat most/\1+3*tot Y.n Y.K+Y.C.D*601<=most/\most<=5000/\aW ds=true
theorem amV{bs:List Bool}(h:WU bs=true)(h0:bs[0]?=some true):pkB bs=true/\tkB bs=true/\qB 26 false bs=true/\qB 32 false bs=true:=by
 cases bs with
 |nil=>cases h0
 |cons b l =>
  simp at h0;subst h0;simp only[WU,cond_true,ah]at h;exact h
theorem aAh{bs:List Bool}(h:WU bs=true)(h0:bs[0]?=some false):oeB bs=true:=by
 cases bs with
 |nil=>cases h0
 |cons b l =>
  simp at h0;subst h0;simp only[WU,cond_false]at h;exact h
def CO(c:V):Prop:=c=.aj\/c=.list [] false
theorem CO.noc{c:V}(h:CO c):NoC c:=by rcases h with rfl|rfl<;>first|exact .inl rfl|exact .inr ⟨_,rfl⟩
theorem CO.pf{c:V}(h:CO c):pf c=c:=by rcases h with rfl|rfl<;>rfl
theorem CO.wk{c:V}(h:CO c):dV c=c:=by rcases h with rfl|rfl<;>simp only[dV,bY]
theorem CO.plain{c:V}(h:CO c):fM c=true/\aO c=true:=by rcases h with rfl|rfl<;>exact⟨rfl,rfl⟩
structure WI (Y:Rws)(P:Nat->Nat)(cn:Nat)(os:List Nat)(ns xs:List V)(c:V)(A:Nat->Nat->Nat)(ow:Nat->Nat->Bool):Prop where
 iv:Oh Y P cn ns xs A ow
 co:CO c
 my:∀v∈ns,vJ [v,jn ns.length]=some (.bool true)
 nd:os.Nodup
 mem:∀v,v∈os<->(v<=Y.n/\P v=Y.K v)
 lst:0∈os->∃l,os=l++[0]
def mJ(Y:Rws)(os:List Nat)(ns xs:List V)(c:V):List V:=[Y.C.ops,Y.C.defs,.list ns false,.int .i64 Y.C.most,c,jn 0,.aj,.list xs false,oV os]
theorem XG{Y:Rws}{os:List Nat}{ns xs:List V}{c:V}:Ir Y os ns xs c=.agg (mJ Y os ns xs c):=rfl
variable {Y:Rws}{P:Nat->Nat}{cn:Nat}{os:List Nat}{ns xs:List V}{A:Nat->Nat->Nat}{ow:Nat->Nat->Bool}{c:V}{t:Nat}
theorem afI(hO:Ec Y)(hI:Oh Y P cn ns xs A ow)(hmn:xs.length<=Y.n+1){u:Nat}{X:V}(hX:xs[u]?=some X):aA (cellsD X) 0=jn (if P u=Y.K u then 3 else 1):=by
 have hu:=lu hX;obtain⟨X2,h1,hA⟩:=hI.ats u hu;rw[hX]at h1;cases h1;have h0:=hO.x0 u (P u) (by omega) (hI.le u (by omega));have h11:=hO.x11 u (P u) (by omega) (hI.le u (by omega));rw[hA.x]
 match hx:(Y.R u (P u)).x,h11 with
 |[],h=>simp at h
 |a::l,_ =>
  rw[hx]at h0;rw[kG]at h0;subst h0;show aA (subs (rA (A u)) (jn _::l)) 0=_;rw[xw,kG];simp only[jn,sub]
theorem nN(hO:Ec Y)(hc:CO c):∀v∈mJ Y os ns xs c,fM v=true:=by
 intro v hv;simp only[mJ,bU,List.not_mem_nil,or_false]at hv;rcases hv with rfl|rfl|rfl|rfl|rfl|rfl|rfl|rfl|rfl
 .exact hO.pops
 .exact hO.Uk
 .rfl
 .rfl
 .exact hc.plain.1
 .rfl
 .rfl
 .rfl
 .exact(Dk os).2.1
theorem xA(hY:wz Y)(hI:Oh Y P cn ns xs A ow)(hc:CO c):aW (mJ Y os ns xs c)=true:=by
 have f1:=(zy hI.gn).2;have f4:=Oj hI.thc;simp only[aW,mJ,aO,hY.cst.YR,hY.cst.O8,f1,f4,hc.plain.2,(Dk os).1,jn,aU]
theorem axP(hY:wz Y)(hO:Ec Y)(hI:Oh Y P cn ns xs A ow)(hc:CO c){v:V}(hv:v∈mJ Y os ns xs c):pf v=v :=
 Ul (nN hO hc v hv) (Pj (xA hY hI hc) v hv)
def bsP(Y:Rws)(P:Nat->Nat)(m:Nat):List Bool:=(List.range m).map λu=>!(Nat.beq (P u) (Y.K u))
theorem FH{m:Nat}:(bsP Y P m).length=m:=by simp[bsP]
theorem FD{m u:Nat}(hu:u<m):(bsP Y P m)[u]?=some (!(Nat.beq (P u) (Y.K u))):=by
 rw[bsP,iW,List.getElem?_range hu];rfl
theorem X3(hI:Oh Y P cn ns xs A ow)(hmn:xs.length<=Y.n+1){u:Nat}(hu:u∈runs (bsP Y P xs.length) 0):u<xs.length/\P u<Y.K u:=by
 obtain⟨i,hi,hbi⟩:=QL hu;rw[iF]at hi;subst hi;have hul:u<xs.length:=by
  rcases dP u xs.length with h|h
  .exact h
  .rw[gU (by rw[FH];exact h)]at hbi;cases hbi
 refine⟨hul,?_⟩;rw[FD hul]at hbi;have h1:=hI.le u (by omega);have h2:P u≠Y.K u:=λh=>by rw[h]at hbi;simp at hbi
 omega
theorem aex(hY:wz Y)(hO:Ec Y)(hI:Oh Y P cn ns xs A ow)(hc:CO c):subs (rP (.agg (mJ Y os ns xs c)) xs) [wP (bsP Y P xs.length)]=[.agg (mJ Y os ns xs c)]:=by
 have hxn:=LW hY hI;refine axH hI.thc FH (λi b X h1 h2=>?_) (λv hv=>axP (os:=os) hY hO hI hc (v:=v) (by simp only[mJ,bU,List.not_mem_nil,or_false]at hv|-;rcases hv with h|h|h|h|h|h|h|h<;>simp[h]));have hil:=lu h2;rw[FD hil]at h1;cases h1;rw[afI hO hI hxn h2];by_cases hq:P i=Y.K i
 .rw[if_pos hq,hq];simp
 .rw[if_neg hq,iH hq];rfl
theorem aoi(hY:wz Y)(hO:Ec Y)(hI:Oh Y P cn ns xs A ow)(hcn:cn<=1000)(hc:CO c)(h0:P 0<Y.K 0) :
  EvA D5 mY 27 [.agg (mJ Y os ns xs c)] (.tuple [.agg (mJ Y os ns xs c),.aj]):=by
 have hxn:=LW hY hI;have hx0:0<xs.length:=by rw[hI.m];exact hO.mn1 _ (hI.le 0 (eX _))
 have hb0:(bsP Y P xs.length)[0]?=some true:=by rw[FD hx0,iH (by omega)];rfl
 refine aoh (amV (hO.pat _ (by rw[FH];exact hxn)) hb0).2.1 (aex hY hO hI hc) (λu hu=>?_) (by
  rw[show aO (.agg (mJ Y os ns xs c))=aW (mJ Y os ns xs c)from by simp only[aO]];exact xA hY hI hc)
 obtain⟨hul,huk⟩:=X3 hI hxn hu;exact aer (more:=[jn u]) hY hI hcn hc.pf hul rfl rfl rfl rfl (hO.inn u (P u) xs.length (by omega) huk (λh=>by subst h;exact hI.m) (λh=>⟨hul,hxn⟩))
theorem auB(hO:Ec Y)(hI:Oh Y P cn ns xs A ow)(hxn:xs.length<=Y.n+1):∃o,o<xs.length/\∀d,d<Y.C.D->∃q,kU (Y.R o (P o)).l 2 d=some q:=by
 have hx0:0<xs.length:=by rw[hI.m];exact hO.mn1 _ (hI.le 0 (eX _))
 by_cases h1:xs.length=1
 .exact⟨0,hx0,hO.aAf (P 0) (hI.le 0 (eX _)) (by rw[<- hI.m];exact h1)⟩
 .exact⟨1,by omega,hO.aAg (by omega) (P 1) (hI.le 1 (by omega))⟩
theorem atC(hY:wz Y)(hO:Ec Y)(hI:Oh Y P cn ns xs A ow)(hcn:cn<=1000)(hc:CO c)(h0:P 0<Y.K 0):EvB 91 [.agg (mJ Y os ns xs c),jn 0] (.bool false):=by
 have hxn:=LW hY hI;have hx0:0<xs.length:=by rw[hI.m];exact hO.mn1 _ (hI.le 0 (eX _))
 rcases hO.wt (P 0) h0 with⟨o,p,h1,h3,hp⟩|h
 .obtain⟨u,hu,hnm⟩:=auB hO hI hxn;obtain⟨X,hX,hA⟩:=hI.ats u hu;obtain⟨q,hq⟩:=hnm p hp;obtain⟨v,hv⟩:=(Oe hA.vw hI.gn hp hq).1;obtain⟨hroom,_⟩:=PN hY hI hcn;obtain⟨X0,hX0,hA0⟩:=hI.ats 0 hx0;obtain⟨rest,hrest⟩:∃rest,xs=X0::rest:=by
   cases xs with
   |nil=>simp at hx0
   |cons x r=>simp at hX0;exact⟨r,by rw[hX0]⟩
  have hth:=hI.thc X0 (by rw[hrest];exact bZ);have hfl:=xA (os:=os) hY hI hc;have hpl:=nN (os:=os) (ns:=ns) (xs:=xs) hO hc;obtain⟨cs,hcs,hcl,hcp⟩:=hth;have hx:=hA0.x;rw[hcs]at hx
  match hxx:(Y.R 0 (P 0)).x,hO.x11 0 (P 0) (eX _) (hI.le 0 (eX _)),cs,hcl with
  |[y0,y1,y2,y3,y4,y5,y6,y7,y8,y9,y10],_,[t0,t1,t2,t3,t4,t5,t6,t7,t8,t9,t10],_ =>
   rw[hxx]at hx h1 h3;simp only[kG,iL]at h1 h3;simp only[subs,V.agg.injEq,gu,and_true]at hx;obtain⟨_,e1,_,e3,_⟩:=hx;have e1:t1=.int .i64 (.ofNat o):=by rw[e1,h1];simp only[jn,sub]
   have e3:t3=.int .i64 (.ofNat p):=by rw[e3,h3];simp only[jn,sub]
   subst e1 e3;have hok:=λv hv=>yV (hpl v hv);have Nc:=λv hv=>yV (hcp v hv).1;rw[hrest,hcs]at hfl|-;refine aoT (v:=v) hI.gn (by omega) hv ?_ ?_ ?_
   .refine sD λv hv=>hpl v ?_;simp only[mJ,bU,List.not_mem_nil,or_false]at hv|-;rcases hv with h|h|h|h|h|h<;>simp[h]
   .refine sD λv hv=>(hcp v ?_).1;simp only[bU,List.not_mem_nil,or_false]at hv|-;rcases hv with h|h|h|h|h|h|h|h|h<;>simp[h]
   .show(aO (.agg (mJ Y os ns (.agg _::rest) c))&&_)=true;rw[show aO (.agg (mJ Y os ns (.agg [t0,.int .i64 (.ofNat o),t2,.int .i64 (.ofNat p),t4,t5,t6,t7,t8,t9,t10]::rest) c))=aW (mJ Y os ns (.agg [t0,.int .i64 (.ofNat o),t2,.int .i64 (.ofNat p),t4,t5,t6,t7,t8,t9,t10]::rest) c)from by simp only[aO],hfl];rfl
 .exact aer (more:=[jn 0]) hY hI hcn hc.pf hx0 rfl rfl rfl rfl (by rw[hI.m];exact h)
theorem avf(hO:Ec Y)(hI:Oh Y P cn ns xs A ow)(h0:P 0<Y.K 0):(bsP Y P xs.length)[0]?=some true:=by
 have hx0:0<xs.length:=by rw[hI.m];exact hO.mn1 _ (hI.le 0 (eX _))
 rw[FD hx0,iH (by omega)];rfl
theorem atU(hY:wz Y)(hO:Ec Y)(hI:Oh Y P cn ns xs A ow)(hcn:cn<=1000)(hc:CO c)(h0:P 0<Y.K 0):EvA D5 mY 26 [.agg (mJ Y os ns xs c)] (.bool false)/\EvA D5 mY 32 [.agg (mJ Y os ns xs c)] (.bool false):=by
 obtain⟨_,_,h3,h4⟩:=amV (hO.pat _ (by rw[FH];exact LW hY hI)) (avf hO hI h0);have hW:=aex (os:=os) hY hO hI hc;have hw:=atC (os:=os) hY hO hI hcn hc h0;have hf:aO (.agg (mJ Y os ns xs c))=true:=by
  rw[show aO (.agg (mJ Y os ns xs c))=aW (mJ Y os ns xs c)from by simp only[aO]];exact xA hY hI hc
 exact⟨auF h3 hW hw hf,auF h4 hW hw hf⟩
theorem ar0(hY:wz Y)(hO:Ec Y)(hI:Oh Y P cn ns xs A ow)(hcn:cn<=1000)(hc:CO c)(h0:P 0<Y.K 0):EvA D5 mY 26 [.agg (mJ Y os ns xs c)] (.bool false):=(atU hY hO hI hcn hc h0).1
theorem amS(hY:wz Y)(hO:Ec Y)(hI:Oh Y P cn ns xs A ow)(hc:CO c)(h0:P 0=Y.K 0):EvA D5 mY 26 [.agg (mJ Y os ns xs c)] (.bool true):=by
 have hx0:0<xs.length:=by rw[hI.m];exact hO.mn1 _ (hI.le 0 (eX _))
 have hb:(bsP Y P xs.length)[0]?=some false:=by rw[FD hx0,h0];simp
 exact awZ (aAh (hO.pat _ (by rw[FH];exact LW hY hI)) hb) (aex hY hO hI hc) (by
  rw[show aO (.agg (mJ Y os ns xs c))=aW (mJ Y os ns xs c)from by simp only[aO]];exact xA hY hI hc)
theorem ap8(hY:wz Y)(hO:Ec Y)(hW:WI Y P cn os ns xs c A ow)(hcn:cn<600) :
  ∃nU xs2 c2 A2 D9,WI Y P (cn+1) os nU xs2 c2 A2 D9/\colS [.agg (mJ Y os ns xs c)]=some (.tuple [.agg (mJ Y os nU xs2 c2),.bool true]):=by
 have hI:=hW.iv;have hxn:=LW hY hI;have hx0:0<xs.length:=by rw[hI.m];exact hO.mn1 _ (hI.le 0 (eX _))
 obtain⟨ds,ed,most,d1,d2,d3,d4,d5,d6,d7,d8⟩:=hO.cst;have htot:=XF hI.le;have hDc:Y.C.D*(cn+1)<=Y.C.D*601:=Nat.mul_le_mul_left _ (by omega);have hown:=auB hO hI hxn;obtain⟨nU,xs2,A2,D9,rR,a1,a2,a3,a4,a5,a6⟩:=Y8 (os:=os) (th:=λt=>thD (Y.R t (P t)).x) hI (λt ht=>ap3 (hO.col t (P t) (by omega) (hI.le t (by omega)))) hW.my hx0 hown (by have:=hO.nB.2;omega) d1 d2 d3 d4 d5 (by omega) d7 hW.co.noc hY.cst.YR d8 (yV hO.pops);refine⟨nU,xs2,.list [] false,A2,D9,⟨a3,.inr rfl,a5,hW.nd,hW.mem,hW.lst⟩,?_⟩;have h1:=ap4 (Y:=Y) (os:=os) (xs:=xs) (c:=c) d5 a6 a1;rw[XG]at h1;rw[h1,a2];simp only[Ir,zS,mJ,dV,bY,hY.cst.axQ,hY.cst.aoU,a3.wn,a3.wx,(Dk os).2.2,jn]
end
section
variable {Y:Rws}{P:Nat->Nat}{cn:Nat}{os:List Nat}{ns xs:List V}{A:Nat->Nat->Nat}{ow:Nat->Nat->Bool}{c:V}{t:Nat}
theorem arX(hO:Ec Y)(hW:WI Y P cn os ns xs c A ow)(h0:P 0<Y.K 0)(ht:t<=Y.n)(hk:P t<Y.K t) :
  (os++WY (Y.pr t (P t))).Nodup/\(∀v,v∈os++WY (Y.pr t (P t))<->(v<=Y.n/\upd P t v=Y.K v))/\(0∈os++WY (Y.pr t (P t))->∃l,os++WY (Y.pr t (P t))=l++[0]):=by
 have hn:t∉os:=λh=>by have:=(hW.mem t).1 h;omega
 have hn0:0∉os:=λh=>by have:=(hW.mem 0).1 h;omega
 rw[hO.pr t (P t) ht hk];by_cases he:P t+1=Y.K t
 .rw[if_pos he];simp only[WY];refine⟨?_,λv=>?_,λh=>?_⟩
  .rw[List.nodup_append];exact⟨hW.nd,by simp,λa ha b hb=>by simp at hb;subst hb;rintro rfl;exact hn ha⟩
  .rw[dH,List.mem_singleton,hW.mem v];by_cases hv:v=t
   .subst hv;rw[upd_same];omega
   .rw[upd_ne hv];constructor
    .rintro (h|h)
     .exact h
     .exact absurd h hv
    .exact .inl
  .rcases dH.1 h with h|h
   .exact absurd h hn0
   .simp at h;subst h;exact⟨os,rfl⟩
 .rw[if_neg he];simp only[WY,iY];refine⟨hW.nd,λv=>?_,λh=>absurd h hn0⟩;rw[hW.mem v];by_cases hv:v=t
  .subst hv;rw[upd_same];omega
  .rw[upd_ne hv]
theorem amY(hY:wz Y)(hO:Ec Y)(hW:WI Y P cn os ns xs c A ow)(hcn:cn<=1000)(h0:P 0<Y.K 0)(b:Nat) :
  ∃u os2 nU xs2 A2 D9 ev,u<=Y.n/\P u<Y.K u/\WI Y (upd P u) cn os2 nU xs2 c A2 D9/\(ev.1≠3/\ev.1≠4/\ev.1≠5) /\
   EvA D5 mY 29 [.agg (mJ Y os ns xs c),jn b,.int .i64 Y.C.deep] (.tuple [.agg (mJ Y os2 nU xs2 c),Yz ev]):=by
 have hI:=hW.iv;have hc:=hW.co;have hxn:=LW hY hI;have hx0:0<xs.length:=by rw[hI.m];exact hO.mn1 _ (hI.le 0 (eX _))
 have hb0:(bsP Y P xs.length)[0]?=some true:=by rw[FD hx0,iH (by omega)];rfl
 have hne:runs (bsP Y P xs.length) 0≠[]:=λh=>by
  cases hq:bsP Y P xs.length with
  |nil=>rw[hq]at hb0;cases hb0
  |cons a l =>
   rw[hq]at hb0 h;simp at hb0;subst hb0;simp[runs]at h
 have hpos:0<(runs (bsP Y P xs.length) 0).length:=uN.2 hne;obtain⟨u,hu⟩:∃u,(runs (bsP Y P xs.length) 0)[b%(runs (bsP Y P xs.length) 0).length]?=some u:=⟨_,bV (Nat.mod_lt _ hpos)⟩;obtain⟨hul,huk⟩:=X3 hI hxn (lK hu);have hun:u<=Y.n:=by omega
 have hob:os.length<=Y.B:=by
  have h1:(u::os).Nodup:=List.nodup_cons.2 ⟨λh=>by have:=(hW.mem u).1 h;omega,hW.nd⟩;have h2:=EM (Y.n+1) _ h1 (λq hq=>by
   rcases bU.1 hq with rfl|hq
   .omega
   .have:=(hW.mem q).1 hq;omega)
  have:=hO.nB.1;simp at h2;omega
 obtain⟨nU,xs2,A2,D9,rR,hans,hrR,hI2,aF7,hev,T,hT1,hT2,hT3⟩:=alI (os:=os) (c:=c) hY hI hcn hc.pf hc.wk hul huk hob;obtain⟨k,b1,c1,aB3,k3,k4,k5⟩:=agI hev;obtain⟨s1,s2,s3⟩:=arX hO hW h0 hun huk;obtain⟨m1,m2⟩:=hO.may u (P u) hun huk;have aCd:=an6 hT1 hT2 hT3 m2 (ZP m1) hW.my;refine⟨u,_,nU,xs2,A2,D9,(k,b1,c1),hun,huk,⟨hI2,hc,aCd,s1,s2,s3⟩,⟨k3,k4,k5⟩,?_⟩;rw[aB3,XG]at hrR;rw[XG]at hans;have hfl:=xA (os:=os) hY hI hc;have aB4:=xA (os:=os++WY (Y.pr u (P u))) hY hI2 hc;have hpl2:=nN (os:=os++WY (Y.pr u (P u))) (ns:=nU) (xs:=xs2) hO hc;have hpl:=nN (os:=os) (ns:=ns) (xs:=xs) hO hc;exact amX (xs:=xs) (bs:=bsP Y P xs.length) (n:=b) (t:=u) (amV (hO.pat _ (by rw[FH];exact hxn)) hb0).1 (aex hY hO hI hc) hne hu k3 (sD hpl) (sD hpl2) hans hrR (by
   show(aO (.agg (mJ Y os ns xs c))&&_)=true;rw[show aO (.agg (mJ Y os ns xs c))=aW (mJ Y os ns xs c)from by simp only[aO],hfl];rfl) (by
   show aO (.tuple [.agg (mJ Y (os++WY (Y.pr u (P u))) nU xs2 c),.agg [jn k,jn b1,jn c1]])=true;simp only[aO,aW,aB4,jn,aU]) (λh=>by
   have aCr:=Gm hpl2;have e1:dF (999999+1) [.tuple [.agg (mJ Y (os++WY (Y.pr u (P u))) nU xs2 c),.agg [jn k,jn b1,jn c1]]] h=(match dF (999998+1) [.agg (mJ Y (os++WY (Y.pr u (P u))) nU xs2 c),.agg [jn k,jn b1,jn c1]] h with|(cs,h)=>kQ (.tuple cs) (dF 999999 [] h)):=rfl;have e2':dF (999998+1) [.agg (mJ Y (os++WY (Y.pr u (P u))) nU xs2 c),.agg [jn k,jn b1,jn c1]] h=(match dF 999998 (mJ Y (os++WY (Y.pr u (P u))) nU xs2 c) h with|(cs,h)=>kQ (.agg cs) (dF 999998 [.agg [jn k,jn b1,jn c1]] h)):=rfl;show qo (.tuple [.agg (mJ Y (os++WY (Y.pr u (P u))) nU xs2 c),.agg [jn k,jn b1,jn c1]]) h=_;unfold qo;rw[show(1000000:Nat)=999999+1 from rfl,e1,e2',uS _ h aCr];rfl)
variable {mm:eF}
theorem atF(hY:wz Y)(hO:Ec Y)(hM:WM mm){sc:List V}(hl6:sc.length<=600)(hsc:∀i,i<sc.length->∃b rest,skip i sc=.agg [.int .u8 (.ofNat b)]::rest/\b<256) :
  ∀(d:Nat) {P:Nat->Nat} {cn:Nat} {os:List Nat} {ns xs:List V} {c:V} {A:Nat->Nat->Nat} {ow:Nat->Nat->Bool} {i:Nat} {es:List (Nat×Nat×Nat)},WI Y P cn os ns xs c A ow->i+d=sc.length->cn<=i->es.length<=i->(∀e∈es,5<e.1) ->
   ∃j P2 cn2 os2 nU xs2 c2 A2 D9 es2,Way mm Y.C.deep sc i (mJ Y os ns xs c) es j (mJ Y os2 nU xs2 c2) es2/\WI Y P2 cn2 os2 nU xs2 c2 A2 D9/\cn2<=600/\es2.length<=j/\j<=sc.length/\(∀e∈es2,5<e.1):=by
 intro d
 induction d with
 |zero =>
  intro P cn os ns xs c A ow i es hW hd hci hel hes;have:i=sc.length:=by omega
  subst this;exact⟨_,P,cn,os,ns,xs,c,A,ow,es,.done rfl (sD (nN hO hW.co)),hW,by omega,hel,aJ _,hes⟩
 |succ d ih =>
  intro P cn os ns xs c A ow i es hW hd hci hel hes;obtain⟨b,rest,hb,hb2⟩:=hsc i (by omega);have hok:=sD (nN (os:=os) (ns:=ns) (xs:=xs) hO hW.co);have hle:=hW.iv.le 0 (eX _);by_cases h0:P 0=Y.K 0
  .exact⟨i,P,cn,os,ns,xs,c,A,ow,es,.stop (by omega) ⟨rest,hb⟩ rfl hok (hM.over _ _ (amS hY hO hW.iv hW.co h0)),hW,by omega,hel,by omega,hes⟩
  .have h0:P 0<Y.K 0:=by omega
   have hov:=hM.over _ _ (ar0 (os:=os) hY hO hW.iv (by omega) hW.co h0);by_cases h4:b=254
   .obtain⟨nU,xs2,c2,A2,D9,hW2,hcl⟩:=ap8 hY hO hW (by omega);obtain⟨j,P3,cn3,os3,ns3,xs3,c3,A3,ow3,es3,hw,r⟩:=ih (i:=i+1) (es:=es) hW2 (by omega) (by omega) (by omega) hes;exact⟨j,P3,cn3,os3,ns3,xs3,c3,A3,ow3,es3,.idle (by omega) (by omega) ⟨rest,hb⟩ rfl rfl hok (sD (nN hO hW2.co)) hov (.inl ⟨h4,hM.col _ _ hcl⟩) hw,r⟩
   .by_cases h5:b=255
    .obtain⟨j,P3,cn3,os3,ns3,xs3,c3,A3,ow3,es3,hw,r⟩:=ih (i:=i+1) (es:=es) hW (by omega) (by omega) (by omega) hes;exact⟨j,P3,cn3,os3,ns3,xs3,c3,A3,ow3,es3,.idle (by omega) (by omega) ⟨rest,hb⟩ rfl rfl hok hok hov (.inr ⟨h5,hM.tick _ _ (aoi hY hO hW.iv (by omega) hW.co h0)⟩) hw,r⟩
    .obtain⟨u,os2,nU,xs2,A2,D9,ev,hun,huk,hW2,hev,hpk⟩:=amY hY hO hW (by omega) h0 b;have azq:∀e∈tell es ev,5<e.1:=λx hx=>by
      unfold tell at hx
      split at hx
      .exact hes x hx
      .simp only[dH,List.mem_singleton]at hx;rcases hx with hx|rfl
       .exact hes x hx
       .obtain⟨q1,q2,q3⟩:=hev;omega
     have hlt:=aaY es ev;obtain⟨j,P3,cn3,os3,ns3,xs3,c3,A3,ow3,es3,hw,r⟩:=ih (i:=i+1) (es:=tell es ev) hW2 (by omega) (by omega) (by omega) azq;exact⟨j,P3,cn3,os3,ns3,xs3,c3,A3,ow3,es3,.step (by omega) (by omega) (by omega) ⟨rest,hb⟩ (by omega) rfl rfl hok (sD (nN hO hW2.co)) hov (hM.pick _ _ hpk) hev hw,r⟩
end
section
variable {mm:eF}{fns:Nat->Option bF}{h:H}
theorem auM{m:Nat}(hm:Nat.ble m 1000000=true):xZ .i64 (Int.sub (.ofNat (m+1)) (.ofNat 1))=.ofNat m:=by
 have h1:Int.sub (.ofNat (m+1)) (.ofNat 1)=.ofNat m:=by show(Int.ofNat (m+1))-(Int.ofNat 1)=Int.ofNat m;simp only[lJ];omega
 have h2:Nat.blt m 9223372036854775808=true:=by simp[Nat.blt]at hm|-;omega
 rw[h1,ao0,h2];rfl
theorem ala(k a b:Nat)(h:H):qo (.agg [.int .i64 (.ofNat k),.int .i64 (.ofNat a),.int .i64 (.ofNat b)]) h=(.agg [.int .i64 (.ofNat k),.int .i64 (.ofNat a),.int .i64 (.ofNat b)],h):=rfl
theorem amc(hrec:∀a,ay mm 31 a=none)(hfn:fns 31=some Tab.aa9)(N:Nat) :
  runM mm fns (N+100) (.call 31 [.aj]) [] [] h=.val (.agg [.int .i64 (.ofNat 0),.int .i64 (.ofNat 0),.int .i64 (.ofNat 0)]) h:=by
 rw[bn (hrec _) hfn rfl];simp -implicitDefEqProofs only[Tab.aa9,WW,aS,aZ,aK,pad,aC.ev,fJ,bG,aF,dA,eP,bH,splice,bC,takeN,skip,bf,bK,Nat.reduceAdd,Nat.beq,Nat.blt,Nat.ble,finish,resV,dI,mk,cO,dD,eqK,OR.eU,ala]
theorem ahQ{l:List V}{m k a b:Nat}{r:List V}(hl:l.length=m+1)(hg:skip m l=.agg [.int .i64 (.ofNat k),.int .i64 (.ofNat a),.int .i64 (.ofNat b)]::r)(hm:Nat.ble m 1000000=true)(hrec:∀a,ay mm 31 a=none)(hfn:fns 31=some Tab.aa9)(N:Nat) :
  runM mm fns (N+100) (.call 31 [.list l false]) [] [] h=.val (.agg [.int .i64 (.ofNat k),.int .i64 (.ofNat a),.int .i64 (.ofNat b)]) h:=by
 have h1:=auM hm;rw[bn (hrec _) hfn rfl];simp -implicitDefEqProofs only[Tab.aa9,WW,aS,aZ,aK,pad,aC.ev,fJ,bG,aF,dA,eP,bH,splice,bC,takeN,skip,bf,bK,Nat.reduceAdd,Nat.beq,Nat.blt,Nat.ble,finish,resV,dI,mk,cO,dD,mV,eqK,OR.eU,hl,hg,h1,ala]
theorem arn{es:List (Nat×Nat×Nat)}(he:∀e∈es,5<e.1)(hl:es.length<=200000)(hrec:∀a,ay mm 31 a=none)(hfn:fns 31=some Tab.aa9) :
  ∃k a b:Nat,k≠3/\k≠4/\∀N,∀h:H,runM mm fns (N+100) (.call 31 [evL es]) [] [] h=.val (.agg [.int .i64 (.ofNat k),.int .i64 (.ofNat a),.int .i64 (.ofNat b)]) h:=by
 cases es with
 |nil=>exact⟨0,0,0,by omega,by omega,λN h=>amc hrec hfn N⟩
 |cons e es =>
  have hlt:es.length<(e::es).length:=by simp
  obtain⟨rest,hs⟩:∃rest,skip es.length ((e::es).map Yz)=Yz ((e::es)[es.length])::rest:=lD (show((e::es).map Yz)[es.length]?=some (Yz ((e::es)[es.length]))from by rw[iW,bV hlt];rfl);have h5:=he _ (ku hlt);exact⟨((e::es)[es.length]).1,((e::es)[es.length]).2.1,((e::es)[es.length]).2.2,by omega,by omega,λN h=>ahQ (l:=(e::es).map Yz) (by simp) hs (by simp at hl|-;omega) hrec hfn N⟩
variable {w0 w1 w2 w3 w4 w5 w6 w8 t0 t1 t2 t3 t4 t5 t6 t7 t8 t9 t10:V}{ts:List V}{et:Bool}{k a b tn:Nat}{fuel:Int}{evs ua ub:V}{s:List Nat}
theorem VH{v:V}{k:Nat}{s:List Nat}(hv:fM v=true)(h:H):qo (.agg [.int .i64 (.ofNat k),.int .i64 (.ofNat 0),.int .i64 (.ofNat 0),.int .i64 (.ofNat 0),.int .i64 (.ofNat 0),v,.str s,.int .i64 (.ofNat 0),.int .i64 (.ofNat 0),.int .i64 (.ofNat tn)]) h=(.agg [.int .i64 (.ofNat k),.int .i64 (.ofNat 0),.int .i64 (.ofNat 0),.int .i64 (.ofNat 0),.int .i64 (.ofNat 0),v,.str s,.int .i64 (.ofNat 0),.int .i64 (.ofNat 0),.int .i64 (.ofNat tn)],h):=by
 have hp:sU [.int .i64 (.ofNat k),.int .i64 (.ofNat 0),.int .i64 (.ofNat 0),.int .i64 (.ofNat 0),.int .i64 (.ofNat 0),v,.str s,.int .i64 (.ofNat 0),.int .i64 (.ofNat 0),.int .i64 (.ofNat tn)]=true:=Gm λx hx=>by
  simp only[bU,List.not_mem_nil,or_false]at hx;rcases hx with rfl|rfl|rfl|rfl|rfl|rfl|rfl|rfl|rfl|rfl<;>first|rfl|exact hv
 have e1:∀l:List V,dF (999999+1) [.agg l] h=(match dF 999999 l h with|(cs,h)=>kQ (.agg cs) (dF 999999 [] h)):=λl=>rfl;unfold qo;rw[show(1000000:Nat)=999999+1 from rfl,e1,uS _ h hp];rfl
theorem Yq(hrec:∀a,ay mm 14 a=none)(hfn:fns 14=some Tab.aea)
  (hlast:∀N,∀h:H,runM mm fns (N+100) (.call 31 [evs]) [] [] h=.val (.agg [.int .i64 (.ofNat k),.int .i64 (.ofNat a),.int .i64 (.ofNat b)]) h) (hk3:Nat.beq k 3=false) (hk4:Nat.beq k 4=false) (hev:evs=.aj\/∃l,evs=.list l false)
  (av6:ay mm 32 [.agg [w0,w1,w2,w3,w4,w5,w6,.list (.agg [.int .i64 (.ofNat 1),t1,t2,t3,t4,t5,t6,t7,t8,t9,t10]::ts) et,w8]]=some (.bool false))
  (hok:bf [w0,w1,w2,w3,w4,w5,w6]=true) (hw8:fM w8=true) (Nc:bf [t1,t2,t3,t4,t5,t6,t7,t8,t9,t10]=true) (N:Nat) :
  runM mm fns (N+300) (.call 14 [.agg [w0,w1,w2,w3,w4,w5,w6,.list (.agg [.int .i64 (.ofNat 1),t1,t2,t3,t4,t5,t6,t7,t8,t9,t10]::ts) et,w8],evs,.int .i64 fuel,.agg [.int .i64 (.ofNat 0),.int .i64 (.ofNat 0),.int .i64 (.ofNat 0),.int .i64 (.ofNat 0),.int .i64 (.ofNat 0),w8,.str [],.int .i64 (.ofNat 0),.int .i64 (.ofNat 0),.int .i64 (.ofNat tn)]]) [] [] h
   = .val (.agg [.int .i64 (.ofNat 5),.int .i64 (.ofNat 0),.int .i64 (.ofNat 0),.int .i64 (.ofNat 0),.int .i64 (.ofNat 0),w8,.str [],.int .i64 (.ofNat 0),.int .i64 (.ofNat 0),.int .i64 (.ofNat tn)]) h:=by
 simp only[bf,ah,cZ]at hok Nc;obtain⟨p0,p1,p2,p3,p4,p5,p6⟩:=hok;obtain⟨q1,q2,q3,q4,q5,q6,q7,q8,q9,q10⟩:=Nc;have p8:=yV hw8;have l8:wo w8=false:=by cases w8<;>first|rfl|cases hw8
 have v8:isVal w8=true:=by cases w8<;>first|rfl|cases hw8
 have hst:=λN fr lo h=>dJ (fns:=fns) (n:=N) (fr:=fr) (lo:=lo) (h:=h) av6;have aGb:sK (.ofNat k) 3=false:=hk3;have aGc:sK (.ofNat k) 4=false:=hk4;have hfz:=λh=>VH (k:=5) (s:=[]) (tn:=tn) hw8 h;rw[bn (hrec _) hfn rfl];rcases hev with rfl|⟨l,rfl⟩<;>simp -implicitDefEqProofs only[Tab.aea,WW,aS,aZ,aK,pad,aC.ev,aC.evs,fJ,bG,aF,dA,eP,bH,splice,bC,takeN,skip,bf,bK,Nat.reduceAdd,Nat.beq,finish,resV,dI,mk,eqK,nH,fU,gX,jU,OR.eU,hlast,hk3,hk4,hst,hfz,p8,q1,q2,q3,q4,q5,q6,q7,q8,q9,q10]
theorem abP(hrec:∀a,ay mm 14 a=none)(hfn:fns 14=some Tab.aea)
  (hl8:wo t8=false) (htext:ay mm 30 [.agg [w0,w1],.agg [w2,w3],t8,.int .i64 (.ofNat 3),.int .i64 fuel,.int .i64 500]=some (.tuple [.str s,ua,ub])) (hev:evs=.aj\/∃l,evs=.list l false)
  (hok:bf [w0,w1,w2,w3,w4,w5,w6]=true) (hw8:fM w8=true) (Nc:bf [t1,t2,t3,t4,t5,t6,t7,t8,t9,t10]=true) (N:Nat) :
  runM mm fns (N+300) (.call 14 [.agg [w0,w1,w2,w3,w4,w5,w6,.list (.agg [.int .i64 (.ofNat 3),t1,t2,t3,t4,t5,t6,t7,t8,t9,t10]::ts) et,w8],evs,.int .i64 fuel,.agg [.int .i64 (.ofNat 0),.int .i64 (.ofNat 0),.int .i64 (.ofNat 0),.int .i64 (.ofNat 0),.int .i64 (.ofNat 0),w8,.str [],.int .i64 (.ofNat 0),.int .i64 (.ofNat 0),.int .i64 (.ofNat tn)]]) [] [] h
   = .val (.agg [.int .i64 (.ofNat 2),.int .i64 (.ofNat 0),.int .i64 (.ofNat 0),.int .i64 (.ofNat 0),.int .i64 (.ofNat 0),w8,.str s,.int .i64 (.ofNat 0),.int .i64 (.ofNat 0),.int .i64 (.ofNat tn)]) h:=by
 simp only[bf,ah,cZ]at hok Nc;obtain⟨p0,p1,p2,p3,p4,p5,p6⟩:=hok;obtain⟨q1,q2,q3,q4,q5,q6,q7,q8,q9,q10⟩:=Nc;have p8:=yV hw8;have l8:wo w8=false:=by cases w8<;>first|rfl|cases hw8
 have v8:isVal w8=true:=by cases w8<;>first|rfl|cases hw8
 have hst:=λN fr lo h=>dJ (fns:=fns) (n:=N) (fr:=fr) (lo:=lo) (h:=h) htext;have hfz:=λh=>VH (k:=2) (s:=s) (tn:=tn) hw8 h;rw[bn (hrec _) hfn rfl];rcases hev with rfl|⟨l,rfl⟩<;>simp -implicitDefEqProofs only[Tab.aea,WW,aS,aZ,aK,pad,aC.ev,aC.evs,fJ,bG,aF,dA,eP,bH,splice,bC,takeN,skip,bf,bK,Nat.reduceAdd,Nat.beq,finish,resV,dI,mk,eqK,nH,fU,gX,jU,OR.eU,findLabel,hst,hl8,hfz,p8,q1,q2,q3,q4,q5,q6,q7,q8,q9,q10]
end
section
variable {mm:eF}{fns:Nat->Option bF}{h h2:H}{src p0 p1 pa pb c0 c1 v1 evs:V}{ix most deep:Int}{uT:V}{j M:Nat}
variable {w0 w1 w2 w3 w4 w5 w6 w7 w8 x0 x1 x2 x3 x4 x5 x6 x7 x8:V}{kk:Nat}{ss:List Nat}
theorem axl(hrec:∀a,ay mm 6 a=none)(hfn:fns 6=some Tab.vf6)
  (aCw:uT=.aj\/∃l,uT=.list l false) (hsrc:(∃l e,src=.list l e))
  (Ku:ay mm 8 [src]=some (.tuple [.agg [p0,p1],.agg [pa,pb],.int .i64 (.ofNat 0)]))
  (hcode:ay mm 9 [.agg [p0,p1]]=some (.tuple [.agg [c0,c1],v1,.int .i64 (.ofNat 0)]))
  (hidx:ay mm 10 [p1,.func (.func 11) [] []]=some (.int .i64 ix))
  (ab8:ay mm 12 [.agg [c0,c1],.int .i64 ix,.int .i64 most]=some (.tuple [.agg [w0,w1,w2,w3,w4,w5,w6,w7,w8],.int .i64 (.ofNat 0)]))
  (alu:∀k,runM mm fns (M+k) (.call 13 [.agg [w0,w1,w2,w3,w4,w5,w6,w7,w8],uT,.int .i64 deep]) [] [] h=.val (.tuple [.agg [x0,x1,x2,x3,x4,x5,x6,x7,x8],evs,.int .i64 (.ofNat j)]) h2)
  (hend:∀k,runM mm fns (M+k) (.call 14 [.agg [x0,x1,x2,x3,x4,x5,x6,x7,x8],evs,.int .i64 deep,.agg [.int .i64 (.ofNat 0),.int .i64 (.ofNat 0),.int .i64 (.ofNat 0),.int .i64 (.ofNat 0),.int .i64 (.ofNat 0),x8,.str [],.int .i64 (.ofNat 0),.int .i64 (.ofNat 0),.int .i64 (.ofNat j)]]) [] [] h2
   = .val (.agg [.int .i64 (.ofNat kk),.int .i64 (.ofNat 0),.int .i64 (.ofNat 0),.int .i64 (.ofNat 0),.int .i64 (.ofNat 0),x8,.str ss,.int .i64 (.ofNat 0),.int .i64 (.ofNat 0),.int .i64 (.ofNat j)]) h2)
  (hev:evs=.aj\/∃l,evs=.list l false)
  (hv1:∃k n,v1=.int k n)
  (hp0:fM p0=true) (hp1:fM p1=true) (hpa:fM pa=true) (hpb:fM pb=true) (hc0:fM c0=true) (hc1:fM c1=true)
  (zX:bf [w0,w1,w2,w3,w4,w5,w6,w7,w8]=true) (Bv:bf [x0,x1,x2,x3,x4,x5,x6,x7]=true) (azy:x8=.aj\/∃l,x8=.list l false) (k:Nat) :
  runM mm fns (M+k+300) (.call 6 [src,.int .i64 most,.int .i64 deep,uT]) [] [] h
   = .val (.agg [.int .i64 (.ofNat kk),.int .i64 (.ofNat 0),.int .i64 (.ofNat 0),.int .i64 (.ofNat 0),.int .i64 (.ofNat 0),x8,.str ss,.int .i64 (.ofNat 0),.int .i64 (.ofNat 0),.int .i64 (.ofNat j)]) h2:=by
 simp only[bf,ah,cZ]at zX Bv;obtain⟨o0,o1,o2,o3,o4,o5,o6,o7,o8⟩:=zX;obtain⟨q0,q1,q2,q3,q4,q5,q6,q7⟩:=Bv;have hpar:=λN fr lo h=>dJ (fns:=fns) (n:=N) (fr:=fr) (lo:=lo) (h:=h) Ku;have aB0:=λN fr lo h=>dJ (fns:=fns) (n:=N) (fr:=fr) (lo:=lo) (h:=h) hcode;have hid:=λN fr lo h=>dJ (fns:=fns) (n:=N) (fr:=fr) (lo:=lo) (h:=h) hidx;have hbe:=λN fr lo h=>dJ (fns:=fns) (n:=N) (fr:=fr) (lo:=lo) (h:=h) ab8;have hpl:∀q,runM mm fns (M+k+q) (.call 13 [.agg [w0,w1,w2,w3,w4,w5,w6,w7,w8],uT,.int .i64 deep]) [] [] h=.val (.tuple [.agg [x0,x1,x2,x3,x4,x5,x6,x7,x8],evs,.int .i64 (.ofNat j)]) h2:=λq=>by
  have:=alu (k+q);rwa[<- gq]at this
 have hen:∀q,runM mm fns (M+k+q) (.call 14 [.agg [x0,x1,x2,x3,x4,x5,x6,x7,x8],evs,.int .i64 deep,.agg [.int .i64 (.ofNat 0),.int .i64 (.ofNat 0),.int .i64 (.ofNat 0),.int .i64 (.ofNat 0),.int .i64 (.ofNat 0),x8,.str [],.int .i64 (.ofNat 0),.int .i64 (.ofNat 0),.int .i64 (.ofNat j)]]) [] [] h2
   = .val (.agg [.int .i64 (.ofNat kk),.int .i64 (.ofNat 0),.int .i64 (.ofNat 0),.int .i64 (.ofNat 0),.int .i64 (.ofNat 0),x8,.str ss,.int .i64 (.ofNat 0),.int .i64 (.ofNat 0),.int .i64 (.ofNat j)]) h2:=λq=>by
  have:=hend (k+q);rwa[<- gq]at this
 have hx8:fM x8=true:=by rcases azy with rfl|⟨_,rfl⟩<;>rfl
 have hfz:=λh=>VH (k:=kk) (s:=ss) (tn:=j) hx8 h;have pl:∀{v:V},fM v=true->qW v=true/\wo v=false/\isVal v=true:=λ{v} h=>by cases v<;>first|(cases h;done)|exact⟨rfl,rfl,rfl⟩
 have a0:=pl hp0;have a1:=pl hp1;have a2:=pl hpa;have a3:=pl hpb;have a4:=pl hc0;have a5:=pl hc1;generalize M+k=M0 at *;obtain⟨ls,le,rfl⟩:=hsrc;obtain⟨vk,vn,rfl⟩:=hv1;rw[bn (hrec _) hfn rfl];rcases hev with rfl|⟨l,rfl⟩<;>rcases aCw with rfl|⟨l2,rfl⟩<;>rcases azy with rfl|⟨l3,rfl⟩<;>simp -implicitDefEqProofs only[Tab.vf6,WW,aS,aZ,aK,pad,aC.ev,aC.evs,fJ,bG,aF,dA,eP,bH,splice,bC,takeN,skip,bf,bK,Nat.reduceAdd,Nat.beq,finish,resV,dI,mk,eqK,nH,fU,gX,jU,OR.eU,hpar,aB0,hid,hbe,hpl,hen,hfz,a0.1,a1.1,a1.2.1,a2.1,a3.1,a4.1,a5.1,o0,o1,o2,o3,o4,o5,o6,o7,o8,q0,q1,q2,q3,q4,q5,q6,q7]
end
section
variable {Y:Rws}{mm:eF}{fns:Nat->Option bF}
structure WR (mm:eF)(fns:Nat->Option bF):Prop where
 wm:WM mm
 stuck:∀a v,EvA D5 mY 32 a v->ay mm 32 a=some v
 text:∀a v,EvB 30 a v->ay mm 30 a=some v
 run:(∀a,ay mm 6 a=none)/\fns 6=some Tab.vf6
 play:(∀a,ay mm 13 a=none)/\fns 13=some Tab.zQ
 ended:(∀ a,ay mm 14 a=none)/\fns 14=some Tab.aea
 last:(∀a,ay mm 31 a=none)/\fns 31=some Tab.aa9
def asj(k:Nat)(os s:List Nat)(j:Nat):V:=.agg [.int .i64 (.ofNat k),.int .i64 (.ofNat 0),.int .i64 (.ofNat 0),.int .i64 (.ofNat 0),.int .i64 (.ofNat 0),oV os,.str s,.int .i64 (.ofNat 0),.int .i64 (.ofNat 0),.int .i64 (.ofNat j)]
def XP(n k:Nat)(os:List Nat):Prop:=os.Nodup/\(∀v∈os,v<=n)/\((k=2/\∃l,os=l++[0])\/(k=5/\0∉os))
theorem agT(hY:wz Y)(hO:Ec Y)
  {st:List Nat} {va vb:V} {q8:Nat} (h8x:aA (Y.R 0 (Y.K 0)).x 8=ad q8) (h8l:(Y.R 0 (Y.K 0)).l[q8]?=some ru) (hTf:aO (.tuple [.str st,va,vb])=true)
  (hT:nY (nZ (TY [ru] 0 Y.C.most (RN Y.C)) oC 1000000 (.call 30 [.agg [Y.C.ops,Y.C.defs],.agg [sy (.iE [ru]),.int .i64 Y.C.most],ad 0,jn 3,.int .i64 Y.C.deep,jn 500]) zW bx0 emp) (.tuple [.str st,va,vb])=true)
  (hR:WR mm fns) {ns xs:List V} {c:V} {A:Nat->Nat->Nat} {ow:Nat->Nat->Bool} (hW:WI Y (λ_=>0) 0 [] ns xs c A ow)
  {src p0 p1 pa pb v1:V} {ix:Int} (hsrc:∃l e,src=.list l e)
  (Ku:ay mm 8 [src]=some (.tuple [.agg [p0,p1],.agg [pa,pb],.int .i64 (.ofNat 0)]))
  (hcode:ay mm 9 [.agg [p0,p1]]=some (.tuple [.agg [Y.C.ops,Y.C.defs],v1,.int .i64 (.ofNat 0)]))
  (hidx:ay mm 10 [p1,.func (.func 11) [] []]=some (.int .i64 ix))
  (ab8:ay mm 12 [.agg [Y.C.ops,Y.C.defs],.int .i64 ix,.int .i64 Y.C.most]=some (.tuple [.agg (mJ Y [] ns xs c),.int .i64 (.ofNat 0)]))
  (hv1:∃k n,v1=.int k n) (hp0:fM p0=true) (hp1:fM p1=true) (hpa:fM pa=true) (hpb:fM pb=true)
  {h:H} {uT:V} {sc:List V} (Gy:Scr sc uT) (hl6:sc.length<=600) (hsc:∀i,i<sc.length->∃b rest,skip i sc=.agg [.int .u8 (.ofNat b)]::rest/\b<256) :
  ∃N j h2 k os s,XP Y.n k os/\∀q,runM mm fns (N+q) (.call 6 [src,.int .i64 Y.C.most,.int .i64 Y.C.deep,uT]) [] [] h=.val (asj k os s j) h2:=by
 obtain⟨j,P2,cn2,os2,nU,xs2,c2,A2,D9,es2,hw,hW2,hcn,hel,hjl,hes2⟩:=atF (i:=0) (es:=[]) hY hO hR.wm hl6 hsc sc.length hW (by omega) (by omega) (by simp) (by simp);have hI:=hW2.iv;have hxn:=LW hY hI;have hx0:0<xs2.length:=by rw[hI.m];exact hO.mn1 _ (hI.le 0 (eX _))
 have hpl:=nN (os:=[]) (ns:=ns) (xs:=xs) hO hW.co;have hpl2:=nN (os:=os2) (ns:=nU) (xs:=xs2) hO hW2.co;obtain⟨N1,h2,alu⟩:=ain (fns:=fns) (h:=h) rfl (sD hpl) rfl (Gm hpl2) (by omega) hR.play.1 hR.play.2 hw Gy;obtain⟨k,a,b,hk3,hk4,hlast⟩:=arn (mm:=mm) (fns:=fns) hes2 (by omega) hR.last.1 hR.last.2;have hx:xs2[0]?=some xs2[0]:=bV hx0;have hst:=afI hO hI hxn hx;obtain⟨X,hX,hA⟩:=hI.ats 0 hx0;have hXe:xs2[0]=X:=by rw[hx]at hX;exact gZ hX
 obtain⟨cs,hcs,hcl,hcp⟩:=hI.thc _ (ku hx0);rw[hcs]at hst hXe;obtain⟨rest,hrest⟩:∃rest,xs2=.agg cs::rest:=by
  cases xs2 with
  |nil=>simp at hx0
  |cons x r=>exact⟨r,by simp at hcs;rw[hcs]⟩
 have hev:evL es2=.aj\/∃l,evL es2=.list l false:=by
  cases es2 with
  |nil=>exact .inl rfl
  |cons e es=>exact .inr ⟨_,rfl⟩
 have Bv:=sD hpl2;have ho8:=(Dk os2).2.1;have azh:bf [Y.C.ops,Y.C.defs,.list nU false,.int .i64 Y.C.most,c2,jn 0,.aj]=true:=by
  simp only[mJ,bf,ah]at Bv|-;exact⟨Bv.1,Bv.2.1,Bv.2.2.1,Bv.2.2.2.1,Bv.2.2.2.2.1,Bv.2.2.2.2.2.1,Bv.2.2.2.2.2.2.1,trivial⟩
 have aCm:bf [Y.C.ops,Y.C.defs,.list nU false,.int .i64 Y.C.most,c2,jn 0,.aj,.list xs2 false]=true:=by
  simp only[mJ,bf,ah]at Bv|-;exact⟨Bv.1,Bv.2.1,Bv.2.2.1,Bv.2.2.2.1,Bv.2.2.2.2.1,Bv.2.2.2.2.2.1,Bv.2.2.2.2.2.2.1,Bv.2.2.2.2.2.2.2.1,trivial⟩
 have fin:∃kk s,XP Y.n kk os2/\∀q,runM mm fns (N1+300+q) (.call 14 [.agg (mJ Y os2 nU xs2 c2),evL es2,.int .i64 Y.C.deep,asj 0 os2 [] j]) [] [] h2=.val (asj kk os2 s j) h2:=by
  match cs,hcl with
  |[t0,t1,t2,t3,t4,t5,t6,t7,t8,t9,t10],_ =>
   have Nc:bf [t1,t2,t3,t4,t5,t6,t7,t8,t9,t10]=true:=sD λv hv=>(hcp v (bW _ hv)).1;by_cases h0:P2 0=Y.K 0
   .rw[if_pos h0]at hst;have ht0:t0=.int .i64 (.ofNat 3):=hst;subst ht0;have h8:t8=jn (A2 0 q8):=by
     have e:=hA.x;rw[<- hXe,h0]at e;have h11:=hO.x11 0 (Y.K 0) (eX _) (aJ _)
     match hq:(Y.R 0 (Y.K 0)).x,h11 with
     |[y0,y1,y2,y3,y4,y5,y6,y7,y8,y9,y10],_ =>
      rw[hq]at e h8x;simp only[subs,V.agg.injEq,gu,and_true]at e;simp only[kG,iL]at h8x;rw[e.2.2.2.2.2.2.2.2.1,h8x];exact MC _
    obtain⟨ua,ub,hans⟩:=aod (t:=0) (q:=q8) hY hI (by omega) hx0 (by rw[h0];exact h8l) hTf hT;have htx:=hR.text _ _ hans;rw[<- h8]at htx;have hl8:wo t8=false:=by
     have:=(hcp t8 (by simp)).1;cases t8<;>first|rfl|cases this
    refine⟨2,st,⟨hW2.nd,λv hv=>((hW2.mem v).1 hv).1,.inl ⟨rfl,hW2.lst ((hW2.mem 0).2 ⟨eX _,h0⟩)⟩⟩,λq=>?_⟩;subst hrest;have:=abP (mm:=mm) (fns:=fns) (h:=h2) (evs:=evL es2) (fuel:=Y.C.deep) (tn:=j) (w8:=oV os2) (ts:=rest) (et:=false) hR.ended.1 hR.ended.2 hl8 htx hev azh ho8 Nc (N1+q);rw[show N1+300+q=N1+q+300 by omega];exact this
   .rw[if_neg h0]at hst;have ht0:t0=.int .i64 (.ofNat 1):=hst;subst ht0;have hlt:P2 0<Y.K 0:=by have:=hI.le 0 (eX _);omega
    have aCz:=hR.stuck _ _ (atU (os:=os2) hY hO hI (by omega) hW2.co hlt).2;refine⟨5,[],⟨hW2.nd,λv hv=>((hW2.mem v).1 hv).1,.inr ⟨rfl,λh=>h0 ((hW2.mem 0).1 h).2⟩⟩,λq=>?_⟩;subst hrest;have:=Yq (mm:=mm) (fns:=fns) (h:=h2) (evs:=evL es2) (fuel:=Y.C.deep) (tn:=j) (w8:=oV os2) (ts:=rest) (et:=false) hR.ended.1 hR.ended.2 hlast (iH hk3) (iH hk4) hev aCz azh ho8 Nc (N1+q);rw[show N1+300+q=N1+q+300 by omega];exact this
 obtain⟨kk,s,hT8,hend⟩:=fin;refine⟨N1+300+300,j,h2,kk,os2,s,hT8,λq=>?_⟩;have hw1:=sD hpl;have:=axl (mm:=mm) (fns:=fns) (h:=h) (h2:=h2) (M:=N1+300) (deep:=Y.C.deep) (evs:=evL es2) (j:=j) (kk:=kk) (ss:=s) (x8:=oV os2) hR.run.1 hR.run.2 (by cases Gy with|nil _=>exact .inl rfl|list=>exact .inr ⟨_,rfl⟩) hsrc Ku hcode hidx ab8 (λk=>alu _ (by omega)) hend hev hv1 hp0 hp1 hpa hpb hO.pops hO.Uk hw1 aCm (by cases os2 with|nil=>exact .inl rfl|cons a l=>exact .inr ⟨_,rfl⟩) q;rw[show N1+300+300+q=N1+300+q+300 by omega];exact this
end
section
def fcK(s:Ks)(K:Ks->Bool):Bool:=fcL s.x λx=>fcL s.l λl=>fcN s.m λm=>K ⟨x,l,m⟩
def fcR(r:U3)(K:U3->Bool):Bool:=fcL r.x λx=>fcL r.l λl=>fcV r.hp λhp=>fcV r.o λo=>fcV r.ev λev=>fcL r.more λmore=>K ⟨x,l,hp,o,ev,more⟩
end
def J6(s:Ks)(K:Ks->Bool):fcK s K=K s:=by
 unfold fcK;rw[Es,Es,O7]
def Vt(r:U3)(K:U3->Bool):fcR r K=K r:=by
 unfold fcR;rw[Es,Es,Aw,Aw,Aw,Es]
section
section
def aBM(v:V):Bool:=match v with|.list _ e=>e|_=>false
def oK(K q:Nat):V:=bif Nat.beq K 1 then otN q else XM
def Sj(C:Cst)(t m:Nat)(s:Ks)(o:V):V:=match nZ (TY s.l C.D C.most (RN C)) oC 1000000 (.call 84 [JK C s.l (D6 t s.x 0 m) o,jn t,.int .i64 C.deep]) zW bx0 emp with|.val v _=>v|_=>.undef
def aEe(t m:Nat)(v:V):U3:=match cellsD (aa5 v).1 with
 |w=>match bY (Nj (aA w 7))with
  |ts=>⟨cellsD (aA ts t),bY (hpL (aA w 2)),dV (aA w 2),dV (aA w 8),dV (aa5 v).2,ts.drop m⟩
def Js(C:Cst)(t K:Nat)(s:Ks):U3:=aEe t s.m (bif Nat.beq K 1 then Sj C t s.m s (otN 0)else Sj C t s.m s XM)
def rtD(D t m:Nat):Nat:=bif Nat.beq t 0 then(bif Nat.beq m 1 then D else 0)else bif Nat.beq t 1 then D else 0
def nxR(C:Cst)(t:Nat)(s:Ks)(r:U3):Ks:=⟨r.x,forget (rtD C.D t (s.m+r.more.length)) r.x r.l,s.m+r.more.length⟩
def nxX(C:Cst)(t K:Nat)(s:Ks):Ks:=nxR C t s (Js C t K s)
def zT(C:Cst)(t:Nat):Nat->Nat->Ks->Ks
 |_,0,s=>s
 |K,n+1,s=>zT C t (K-1) n (nxX C t K s)
def vC(C:Cst)(t m:Nat)(r:U3)(v hp w7 o ev:V):Bool :=
 lZ v (.tuple [.agg [C.ops,C.defs,hp,.int .i64 C.most,ct0,jn 0,.aj,w7,o],ev]) &&
  (lZ w7 (.list (Nj w7) (aBM w7))&&(aO hp&&(aW (Nj w7)&&(aO o&&(aO ev &&
  (wL (bY (Nj w7)) (D6 t r.x 0 m++r.more)&&(lZ (dV hp) r.hp&&(lZ (dV o) r.o&&lZ (dV ev) r.ev))))))))
def vB(C:Cst)(t m:Nat)(r:U3)(v:V):Bool:=match cellsD (aa5 v).1 with
 |w=>fcV (aA w 2) λhp=>fcV (aA w 7) λw7=>fcV (aA w 8) λo=>fcV (aa5 v).2 λev=>vC C t m r v hp w7 o ev
def sB(s:Ks)(r:U3):Bool :=
 qC s.l r.l&&(ac6 r.l.length r.l&&(Nat.ble r.l.length (s.l.length+3)&&(Nat.ble s.l.length r.l.length&&(TW r.l.length r.l&&(wU r.l.length r.x&&(vK r.x&&(Nat.beq r.x.length 11&&(((lZ r.hp (sy (.iE s.l))&&wL r.l s.l)||lZ r.hp (sy (.list r.l false)))&&(wL (bY r.l) r.l&&(wL (bY r.x) r.x&&(wL (bY r.more) r.more&&(nX r.ev&&(Yy r.ev&&wU r.l.length r.more)))))))))))))
def pB(C:Cst)(t m:Nat)(s:Ks)(r:U3):Nat->Bool
 |0=>vB C t m { r with o:=.list (Si 0 0++[jn t]) false } (Sj C t m s (otN 0))
 |q+1=>vB C t m { r with o:=.list (Si 0 (q+1)++[jn t]) false } (Sj C t m s (otN (q+1)))&&pB C t m s r q
def aAu(v:V):Bool:=lZ v XM
def mB(C:Cst)(B t m K:Nat)(s:Ks)(r:U3):Bool :=
 bif Nat.beq K 1 then pB C t m s r B else vB C t m r (Sj C t m s XM)&&aAu r.o
def inB(C:Cst)(t m:Nat)(s:Ks):Bool:=nY (nZ (TY s.l C.D C.most (RN C)) oC 1000000 (.call 73 [JK C s.l (D6 t s.x 0 m) XM,jn t]) zW bx0 emp) (.bool false)
def wtB(C:Cst)(s:Ks):Bool:=(match jw (aA s.x 1)with|some _=>(match jw (aA s.x 3)with|some p=>Nat.ble (p+1) C.D|none=>false)|none=>false)||nY (nZ (TY s.l C.D C.most (RN C)) oC 1000000 (.call 91 [JK C s.l (D6 0 s.x 0 s.m) XM,jn 0]) zW bx0 emp) (.bool false)
def stB(C:Cst)(t k:Nat)(s:Ks):Bool:=akx C.D s&&(rgB s.l (rtD C.D t s.m)&&(lZ (aA s.x 0) (jn k)&&Nat.beq s.x.length 11))
def Fh(v:V):List V:=match v with|.tuple l=>l|_=>[]
def txV(C:Cst):V:=match nZ (TY [ru] 0 C.most (RN C)) oC 1000000 (.call 30 [.agg [C.ops,C.defs],.agg [sy (.iE [ru]),.int .i64 C.most],ad 0,jn 3,.int .i64 C.deep,jn 500]) zW bx0 emp with|.val v _=>v|_=>.undef
def txB(C:Cst)(s:Ks):Bool:=(match Hl (aA s.x 8)with
 |some q=>(match ng q s.l with|some v=>lZ v ru|none=>false)
 |none=>false)&&(match txV C with
 |v=>lZ v (.tuple [.str (strD (aA (Fh v) 0)),aA (Fh v) 1,aA (Fh v) 2])&&(aO (aA (Fh v) 1)&&aO (aA (Fh v) 2)))
def ahz(C:Cst)(t:Nat):Nat->Ks->Bool
 |0,s=>stB C t 3 s
 |n+1,s=>fcR (Js C t (n+1) s) λr=>fcK (nxR C t s r) λs2 =>
  stB C t 1 s&&(sB s r&&(r.more.isEmpty&&(fewer s2.l r.l&&(Nat.beq s2.l.length r.l.length&&ahz C t n s2))))
def PW(C:Cst)(B t m:Nat):Nat->Ks->Bool
 |0,_=>true
 |n+1,s=>fcR (Js C t (n+1) s) λr=>fcK (nxR C t s r) λs2 =>
  mB C B t m (n+1) s r&&(inB C t m s&&PW C B t m n s2)
def TQ(C:Cst)(S:Nat->Ks)(N:Nat):Nat->Ks->Bool
 |0,s=>stB C 0 3 s&&(Nat.beq s.m (N+1)&&txB C s)
 |n+1,s=>fcR (Js C 0 (n+1) s) λr=>fcK (nxR C 0 s r) λs2 =>
  stB C 0 1 s&&(sB s r&&(mB C N 0 s.m (n+1) s r&&(inB C 0 s.m s&&(wtB C s&&(fewer s2.l r.l&&(Nat.beq s2.l.length r.l.length &&
   ((r.more.isEmpty||(match S s.m with
    |q=>Nat.ble s.m N&&(wL r.more [.agg q.x]&&(fewer q.l r.l&&(Nat.beq q.l.length r.l.length&&(adL s2.l q.l&&(vK q.x&&Nat.beq q.x.length 11)))))))&&TQ C S N n s2)))))))
end
variable {C:Cst}{t m:Nat}{s:Ks}{r:U3}{o v:V}
theorem arZ{l:List V}(h:lZ (Sj C t m s o) (.tuple l)=true):nY (nZ (TY s.l C.D C.most (RN C)) oC 1000000 (.call 84 [JK C s.l (D6 t s.x 0 m) o,jn t,.int .i64 C.deep]) zW bx0 emp) (.tuple l)=true:=by
 unfold Sj at h;cases hr:nZ (TY s.l C.D C.most (RN C)) oC 1000000 (.call 84 [JK C s.l (D6 t s.x 0 m) o,jn t,.int .i64 C.deep]) zW bx0 emp with
 |val u g=>rw[hr]at h;exact h
 |_=>rw[hr]at h;have:=jv h;cases this
theorem aAF(hC:SI C)(h:vB C t m r (Sj C t m s o)=true) :
  ∃rK,nY (nZ (TY s.l C.D C.most (RN C)) oC 1000000 (.call 84 [JK C s.l (D6 t s.x 0 m) o,jn t,.int .i64 C.deep]) zW bx0 emp) rK=true/\aO rK=true/\dV rK=.tuple [zS C r.hp ct0 (D6 t r.x 0 m++r.more) r.o,r.ev]:=by
 unfold vB at h;generalize hv:Sj C t m s o=v at h;dsimp only at h;rw[Aw,Aw,Aw,Aw]at h;generalize aA (cellsD (aa5 v).1) 2=hp at h;generalize aA (cellsD (aa5 v).1) 7=w7 at h;generalize aA (cellsD (aa5 v).1) 8=oo at h;generalize (aa5 v).2=ev at h;unfold vC at h;simp only[ah]at h;obtain⟨h1,h0,h2,h3,h4,h5,h6,h7,h8,h9⟩:=h;have e0:=jv h0;rw[e0]at h1;refine⟨_,arZ (by rw[hv];exact h1),?_,?_⟩
 .have:aO ct0=true:=rfl;simp only[aO,aW,hC.YR,hC.O8,h2,h3,h4,h5,this,jn,aU]
 .have e6:=oU _ _ h6;have e7:=jv h7;have e8:=jv h8;have e9:=jv h9;have ec:dV ct0=ct0:=by simp only[ct0,sy,dV,bY]
  simp only[zS,dV,bY,hC.axQ,hC.aoU,e6,e7,e8,e9,ec,jn]
theorem axR(h:wtB C s=true):(∃o p,aA s.x 1=jn o/\aA s.x 3=jn p/\p<C.D)\/nY (nZ (TY s.l C.D C.most (RN C)) oC 1000000 (.call 91 [JK C s.l (D6 0 s.x 0 s.m) XM,jn 0]) zW bx0 emp) (.bool false)=true:=by
 unfold wtB at h;rw[gQ]at h;rcases h with h|h
 .cases h1:jw (aA s.x 1)with
  |none=>rw[h1]at h;cases h
  |some o =>
   rw[h1]at h;dsimp only at h;cases h3:jw (aA s.x 3)with
   |none=>rw[h3]at h;cases h
   |some p =>
    rw[h3]at h;exact .inl ⟨o,p,kH h1,kH h3,jA h⟩
 .exact .inr h
structure SF (s:Ks)(r:U3):Prop where
 same:qC s.l r.l=true
 nodes:ac6 r.l.length r.l=true
 grow:r.l.length<=s.l.length+3
 ge:s.l.length<=r.l.length
 may:TW r.l.length r.l=true
 inx:wU r.l.length r.x=true
 cells:vK r.x=true
 eleven:r.x.length=11
 hp:(r.hp=sy (.iE s.l)/\r.l=s.l)\/r.hp=sy (.list r.l false)
 wl:bY r.l=r.l
 wx:bY r.x=r.x
 wm:bY r.more=r.more
 ev:nX r.ev=true/\Yy r.ev=true
 inm:wU r.l.length r.more=true
theorem auH(h:sB s r=true):SF s r:=by
 unfold sB at h;simp only[ah,gQ]at h;obtain⟨h1,h2,h3,h4,h5,h6,h7,h8,h9,h10,h11,h12,h13,h14,h15⟩:=h;exact⟨h1,h2,jA h3,jA h4,h5,h6,h7,aP h8,by
  rcases h9 with⟨q1,q2⟩|q
  .exact .inl ⟨jv q1,oU _ _ q2⟩
  .exact .inr (jv q),oU _ _ h10,oU _ _ h11,oU _ _ h12,⟨h13,h14⟩,h15⟩
theorem aaR(hC:SI C)(hS:SF s r)(h:vB C t m { r with o:=v } (Sj C t m s o)=true):SL C t m s o { r with o:=v } :=
 ⟨aAF hC h,hS.same,hS.nodes,hS.grow,hS.inx,hS.cells,hS.eleven,hS.hp,hS.wl,hS.ev,hS.inm⟩
theorem auD:∀{B q:Nat},pB C t m s r B=true->q<=B->vB C t m { r with o:=.list (Si 0 q++[jn t]) false } (Sj C t m s (otN q))=true
 |0,q,h,hq=>by
  have:q=0:=by omega
  subst this;exact h
 |B+1,q,h,hq=>by
  simp only[pB,ah]at h;by_cases hb:q=B+1
  .subst hb;exact h.1
  .exact auD h.2 (by omega)
theorem aus{B K:Nat}(hC:SI C)(hS:SF s r)(h:mB C B t m K s r=true):(K≠1->SL C t m s XM r/\r.o=XM)/\(K=1->∀q,q<=B->SL C t m s (otN q) { r with o:=.list (Si 0 q++[jn t]) false }):=by
 unfold mB at h;refine⟨λhK=>?_,λhK q hq=>?_⟩
 .rw[iH hK]at h;simp only[cond_false,ah]at h;have ho:r.o=XM:=jv h.2;exact⟨aaR (v:=r.o) hC hS h.1,ho⟩
 .subst hK;exact aaR hC hS (auD (show pB C t m s r B=true from h) hq)
theorem EF:∀(k K:Nat) (s:Ks),zT C t K (k+1) s=nxX C t (K-k) (zT C t K k s)
 |0,K,s=>rfl
 |k+1,K,s=>by
  have:=EF k (K-1) (nxX C t K s);rw[show K-1-k=K-(k+1) by omega]at this;exact this
structure StF (C:Cst)(t k:Nat)(s:Ks):Prop where
 col:akx C.D s=true
 own:rgB s.l (rtD C.D t s.m)=true
 x0:aA s.x 0=jn k
 x11:s.x.length=11
theorem Xw{k:Nat}(h:stB C t k s=true):StF C t k s:=by
 unfold stB at h;simp only[ah]at h;exact⟨h.1,h.2.1,jv h.2.2.1,aP h.2.2.2⟩
structure aBv (C:Cst)(t:Nat)(s:Ks)(r:U3):Prop where
 st:StF C t 1 s
 sf:SF s r
 more:r.more=[]
 fw:fewer (nxR C t s r).l r.l=true
 ln:(nxR C t s r).l.length=r.l.length
theorem CY:∀{n:Nat} {s:Ks},ahz C t n s=true->(∀k,k<n->aBv C t (zT C t n k s) (Js C t (n-k) (zT C t n k s)))/\StF C t 3 (zT C t n n s)
 |0,s,h=>⟨λk hk=>by omega,Xw h⟩
 |n+1,s,h=>by
  simp only[ahz]at h;rw[Vt,J6]at h;simp only[ah,List.isEmpty_iff]at h;obtain⟨h1,h2,h3,h4,h5,h6⟩:=h;obtain⟨g1,g2⟩:=CY (s:=nxX C t (n+1) s) h6;refine⟨λk hk=>?_,g2⟩;cases k with
  |zero=>exact⟨Xw h1,auH h2,h3,h4,aP h5⟩
  |succ k =>
   have:=g1 k (by omega);rw[show n+1-(k+1)=n-k by omega];exact this
theorem ae3{B:Nat}:∀{n:Nat} {s:Ks},PW C B t m n s=true->∀k,k<n->mB C B t m (n-k) (zT C t n k s) (Js C t (n-k) (zT C t n k s))=true/\inB C t m (zT C t n k s)=true
 |0,s,_,k,hk=>by omega
 |n+1,s,h,0,_=>by
  simp only[PW]at h;rw[Vt,J6]at h;simp only[ah]at h;exact⟨h.1,h.2.1⟩
 |n+1,s,h,k+1,hk=>by
  simp only[PW]at h;rw[Vt,J6]at h;simp only[ah]at h;have:=ae3 (s:=nxX C t (n+1) s) h.2.2 k (by omega);rw[show n+1-(k+1)=n-k by omega];exact this
structure MnF (C:Cst)(S:Nat->Ks)(N K:Nat)(s:Ks)(r:U3):Prop where
 st:StF C 0 1 s
 sf:SF s r
 mb:mB C N 0 s.m K s r=true
 inn:inB C 0 s.m s=true
 wt:wtB C s=true
 fw:fewer (nxR C 0 s r).l r.l=true
 ln:(nxR C 0 s r).l.length=r.l.length
 nx:r.more=[]\/(s.m<=N/\r.more=[.agg (S s.m).x]/\fewer (S s.m).l r.l=true/\(S s.m).l.length=r.l.length/\adL (nxR C 0 s r).l (S s.m).l=true/\vK (S s.m).x=true/\(S s.m).x.length=11)
theorem Jg{S:Nat->Ks}{N:Nat}:∀{n:Nat} {s:Ks},TQ C S N n s=true->(∀k,k<n->MnF C S N (n-k) (zT C 0 n k s) (Js C 0 (n-k) (zT C 0 n k s)))/\StF C 0 3 (zT C 0 n n s)/\(zT C 0 n n s).m=N+1/\txB C (zT C 0 n n s)=true
 |0,s,h=>by
  simp only[TQ,ah]at h;exact⟨λk hk=>by omega,Xw h.1,aP h.2.1,h.2.2⟩
 |n+1,s,h=>by
  simp only[TQ]at h;rw[Vt,J6]at h;simp only[ah,gQ,List.isEmpty_iff]at h;obtain⟨h1,h2,h3,h4,h5,h7,h8,h9,h10⟩:=h;obtain⟨g1,g2⟩:=Jg (s:=nxX C 0 (n+1) s) h10;refine⟨λk hk=>?_,g2⟩;cases k with
  |zero =>
   refine⟨Xw h1,auH h2,h3,h4,h5,h7,aP h8,?_⟩;rcases h9 with h9|⟨k1,k2,k3,k4,k5,k6,k7⟩
   .exact .inl h9
   .exact .inr ⟨jA k1,oU _ _ k2,k3,aP k4,k5,k6,aP k7⟩
  |succ k =>
   have:=g1 k (by omega);rw[show n+1-(k+1)=n-k by omega];exact this
end
section
section
def mkY(C:Cst)(N:Nat)(S:Nat->Ks)(K:Nat->Nat):Rws:=⟨C,N,λt k=>zT C t (K t) k (S t),K,λk=>(zT C 0 (K 0) k (S 0)).m,λt k=>Js C t (K t-k) (zT C t (K t) k (S t)),λt k=>if k+1=K t then some t else none,N⟩
end
structure Facts (C:Cst)(N:Nat)(S:Nat->Ks)(K:Nat->Nat):Prop where
 cst:SI C
 most:wX (Int.ofNat (1+3*tot N K+C.D*1000+50)) C.most=true
 room:1+3*tot N K+C.D*1000+60<=100000
 main:TQ C S N (K 0) (S 0)=true
 s0:(S 0).m=1
 kid:∀t,t<=N->t≠0->ahz C t (K t) (S t)=true
 PW:∀t m,t<=N->t≠0->t<m->m<=N+1->PW C N t m (K t) (S t)=true
 kpos:∀t,t<=N->0<K t
 pops:fM C.ops=true
 Uk:fM C.defs=true
 nB:N<=100
 pat:∀bs:List Bool,bs.length<=N+1->WU bs=true
 ayy:∃ds ed most,0<C.D/\C.D<=1000/\C.defs=.list ds ed/\ds.length=C.D/\C.most=Int.ofNat most/\1+3*tot N K+C.D*601<=most/\most<=5000/\aW ds=true
variable {C:Cst}{N:Nat}{S:Nat->Ks}{K:Nat->Nat}
theorem CZ(hF:Facts C N S K):∀k,k<K 0->MnF C S N (K 0-k) (zT C 0 (K 0) k (S 0)) (Js C 0 (K 0-k) (zT C 0 (K 0) k (S 0))):=(Jg hF.main).1
theorem aiL(hF:Facts C N S K){t k:Nat}(ht:t<=N)(hk:k<K t):SF (zT C t (K t) k (S t)) (Js C t (K t-k) (zT C t (K t) k (S t))):=by
 by_cases h:t=0
 .subst h;exact(CZ hF k hk).sf
 .exact((CY (hF.kid t ht h)).1 k hk).sf
theorem an3(hF:Facts C N S K){t k:Nat}(ht:t<=N)(hk:k<=K t):StF C t (if k=K t then 3 else 1) (zT C t (K t) k (S t)):=by
 by_cases he:k=K t
 .rw[if_pos he,he];by_cases h:t=0
  .subst h;exact(Jg hF.main).2.1
  .exact(CY (hF.kid t ht h)).2
 .rw[if_neg he];by_cases h:t=0
  .subst h;exact(CZ hF k (by omega)).st
  .exact((CY (hF.kid t ht h)).1 k (by omega)).st
theorem adb(hF:Facts C N S K):∀k,k<=K 0->0<(zT C 0 (K 0) k (S 0)).m/\(zT C 0 (K 0) k (S 0)).m<=N+1
 |0,_=>by rw[show zT C 0 (K 0) 0 (S 0)=S 0 from rfl,hF.s0];omega
 |k+1,hk=>by
  have h1:=CZ hF k (by omega);have h2:=adb hF k (by omega);rw[EF];show 0<(zT C 0 (K 0) k (S 0)).m+(Js C 0 (K 0-k) (zT C 0 (K 0) k (S 0))).more.length/\(zT C 0 (K 0) k (S 0)).m+(Js C 0 (K 0-k) (zT C 0 (K 0) k (S 0))).more.length<=N+1;rcases h1.nx with h|⟨h,h3,_⟩
  .rw[h];simpa using h2
  .rw[h3];simp;omega
theorem awD(hF:Facts C N S K){t k m:Nat}(ht:t<=N)(hk:k<K t)(h0:t=0->m=(zT C 0 (K 0) k (S 0)).m)(h1:t≠0->t<m/\m<=N+1):mB C N t m (K t-k) (zT C t (K t) k (S t)) (Js C t (K t-k) (zT C t (K t) k (S t)))=true/\inB C t m (zT C t (K t) k (S t))=true:=by
 by_cases h:t=0
 .subst h;rw[h0 rfl];exact⟨(CZ hF k hk).mb,(CZ hF k hk).inn⟩
 .exact ae3 (hF.PW t m ht h (h1 h).1 (h1 h).2) k hk
theorem ab2(hF:Facts C N S K):wz (mkY C N S K) where
 cst:=hF.cst
 most:=hF.most
 room:=hF.room
 st0 t k m ht hk h0 h1 hp:=by
  refine(aus hF.cst (aiL hF ht hk) (awD hF ht hk h0 h1).1).1 λh=>?_;have hk':k<K t:=hk;have hp':(if k+1=K t then some t else none)=none:=hp;rw[if_pos (by omega)]at hp';cases hp'
 st1 t k m v ht hk h0 h1 hp q hq:=by
  have hk':k<K t:=hk;have hp':(if k+1=K t then some t else none)=some v:=hp;by_cases he:k+1=K t
  .rw[if_pos he]at hp';cases hp';exact(aus hF.cst (aiL hF ht hk) (awD hF ht hk h0 h1).1).2 (by omega) q hq
  .rw[if_neg he]at hp';cases hp'
 wk t k ht hk:=⟨(aiL hF ht hk).wx,(aiL hF ht hk).wm⟩
 nx t k ht hk:=by
  show(zT C t (K t) (k+1) (S t)).x=_/\fewer (zT C t (K t) (k+1) (S t)).l _=true/\(zT C t (K t) (k+1) (S t)).l.length=_;rw[EF];by_cases h:t=0
  .subst h;exact⟨rfl,(CZ hF k hk).fw,(CZ hF k hk).ln⟩
  .exact⟨rfl,((CY (hF.kid t ht h)).1 k hk).fw,((CY (hF.kid t ht h)).1 k hk).ln⟩
 kid t k ht h hk:=((CY (hF.kid t ht h)).1 k hk).more
 main k hk:=by
  have h1:=CZ hF k hk;show((zT C 0 (K 0) (k+1) (S 0)).m=(zT C 0 (K 0) k (S 0)).m/\_)\/((zT C 0 (K 0) (k+1) (S 0)).m=(zT C 0 (K 0) k (S 0)).m+1/\_);have h2:(zT C 0 (K 0) (k+1) (S 0)).m=(zT C 0 (K 0) k (S 0)).m+(Js C 0 (K 0-k) (zT C 0 (K 0) k (S 0))).more.length:=by rw[EF];rfl
  rcases h1.nx with h|⟨g1,g2,g4,g5,g6,g7,g8⟩
  .refine .inl ⟨by rw[h2,h];rfl,h⟩
  .refine .inr ⟨by rw[h2,g2];rfl,g1,g2,g4,g5,?_,g7,g8,hF.kpos _ g1⟩;show adL (zT C 0 (K 0) (k+1) (S 0)).l _=true;rw[EF];exact g6
 mk0:=hF.s0
 mkn k hk:=(adb hF k hk).2
 k0:=hF.kpos 0 (eX _)
theorem akU(hF:Facts C N S K):Ec (mkY C N S K) where
 x0 t k ht hk:=(an3 hF ht hk).x0
 x11 t k ht hk:=(an3 hF ht hk).x11
 pops:=hF.pops
 Uk:=hF.Uk
 mn1 k hk:=(adb hF k hk).1
 kpos:=hF.kpos
 nB:=⟨aJ _,hF.nB⟩
 pr t k ht hk:=rfl
 wt k hk:=axR (CZ hF k hk).wt
 inn t k m ht hk h0 h1:=(awD hF ht hk h0 h1).2
 col t k ht hk:=(an3 hF ht hk).col
 aAf k hk hm:=λd hd=>by
  have h:=(an3 hF (eX _) hk).own;have hm':(zT C 0 (K 0) k (S 0)).m=1:=hm;rw[show rtD C.D 0 (zT C 0 (K 0) k (S 0)).m=C.D by rw[hm'];rfl]at h;exact Vm (adw h hd)
 aAg h1 k hk:=λd hd=>Vm (adw (D:=C.D) (an3 hF h1 hk).own hd)
 may t k ht hk:=⟨(aiL hF ht hk).may,(aiL hF ht hk).ge⟩
 pat:=hF.pat
 cst:=hF.ayy
end
section
variable {C:Cst}{S:Nat->Ks}{N:Nat}{K:Nat->Nat}
section
def p0(r:V):V:=aA (cellsD (aA (Fh r) 0)) 0
def p1(r:V):V:=aA (cellsD (aA (Fh r) 0)) 1
def pa(r:V):V:=aA (cellsD (aA (Fh r) 1)) 0
def pb(r:V):V:=aA (cellsD (aA (Fh r) 1)) 1
def isInt(v:V):Bool:=match v with|.int _ _=>true|_=>false
def awC(v:V):Bool:=match vJ [v,jn 1]with|some u=>lZ u (.bool true)|none=>false
def avc(C:Cst)(nd:V)(s:Ks)(rb:V):Bool:=lZ rb (.tuple [.agg [C.ops,C.defs,.list [nd] false,.int .i64 C.most,.aj,jn 0,.aj,.list [.agg (subs (rA λj=>j) s.x)] false,.aj],.int .i64 (.ofNat 0)])&&(wB [nd]&&(BG nd&&(yA 1 nd&&(lZ (sub (rA λj=>j) nd) nd&&(lZ (dV nd) nd&&(wL (bY (subs (rA λj=>j) s.x)) (subs (rA λj=>j) s.x)&&awC nd))))))
def aeP(C:Cst)(s:Ks)(rp rc rb:V):Bool :=
 (match s.l with|[nd]=>avc C nd s rb|_=>false)&&(wU 1 s.x&&(vK s.x&&(Nat.beq s.x.length 11 &&
 (lZ rp (.tuple [.agg [p0 rp,p1 rp],.agg [pa rp,pb rp],.int .i64 (.ofNat 0)])&&(fM (p0 rp)&&(fM (p1 rp)&&(fM (pa rp)&&(fM (pb rp) &&
 (lZ rc (.tuple [.agg [C.ops,C.defs],aA (Fh rc) 1,.int .i64 (.ofNat 0)])&&isInt (aA (Fh rc) 1))))))))))
end
theorem axC{s:Ks}(h:txB C s=true):∃q st va vb,aA s.x 8=ad q/\s.l[q]?=some ru/\aO (.tuple [.str st,va,vb])=true/\nY (nZ (TY [ru] 0 C.most (RN C)) oC 1000000 (.call 30 [.agg [C.ops,C.defs],.agg [sy (.iE [ru]),.int .i64 C.most],ad 0,jn 3,.int .i64 C.deep,jn 500]) zW bx0 emp) (.tuple [.str st,va,vb])=true:=by
 unfold txB at h;rw[ah]at h;obtain⟨h0,h⟩:=h;obtain⟨q,hq1,hq2⟩:∃q,aA s.x 8=ad q/\s.l[q]?=some ru:=by
  cases hq:Hl (aA s.x 8)with
  |none=>rw[hq]at h0;cases h0
  |some q =>
   rw[hq]at h0;dsimp only at h0;unfold ng at h0;cases hs:skip q s.l with
   |nil=>rw[hs]at h0;cases h0
   |cons v r =>
    rw[hs]at h0;exact⟨q,Ba hq,by rw[(qM hs).2,jv (show lZ v ru=true from h0)]⟩
 generalize hv:txV C=v at h;dsimp only at h;simp only[ah]at h;refine⟨q,strD (aA (Fh v) 0),aA (Fh v) 1,aA (Fh v) 2,hq1,hq2,by simp only[aO,aW,h.2.1,h.2.2,aU],?_⟩;have h1:=h.1;unfold txV at hv;cases hr:nZ (TY [ru] 0 C.most (RN C)) oC 1000000 (.call 30 [.agg [C.ops,C.defs],.agg [sy (.iE [ru]),.int .i64 C.most],ad 0,jn 3,.int .i64 C.deep,jn 500]) zW bx0 emp with
 |val a g=>rw[hr]at hv;subst hv;exact h1
 |_=>rw[hr]at hv;subst hv;have:=jv h1;cases this
theorem aqS(hF:Facts C N S K){nd X:V}(hD:C.D=1)(hl:(S 0).l=[nd])(hn:wB [nd]=true)(h1:BG nd=true)(h2:yA 1 nd=true)(h3:sub (rA λj=>j) nd=nd)(h4:dV nd=nd)(h5:bY (subs (rA λj=>j) (S 0).x)=subs (rA λj=>j) (S 0).x)(h6:awC nd=true)
  (hx:X=.agg (subs (rA λj=>j) (S 0).x)) (avX:wU 1 (S 0).x=true) (ag4:vK (S 0).x=true) (hel:(S 0).x.length=11) :
  WI (mkY C N S K) (λ_=>0) 0 [] [nd] [X] .aj (λ_ j=>j) (λ_ _=>true) where
 iv:={
  gn:=hn
  wn:=by simp only[bY,h4]
  wx:=by simp only[hx,bY,dV,h5]
  len:=by simp
  m:=by show 1=(S 0).m;exact hF.s0.symm
  thc:=λZ hZ=>by
   simp only[List.mem_singleton]at hZ;subst hZ;exact⟨_,hx,by rw[iQ];exact hel,Dp ag4⟩
  le:=λt ht=>eX _
  zero:=λt ht=>rfl
  ats:=λt ht=>by
   have:t=0:=by simpa using ht
   subst this;refine⟨X,rfl,?_,hx,?_⟩
   .show Vw C.D (λj=>j) (λ_=>true) (S 0).l [nd];rw[hl,hD];exact{
     zero:=λd hd=>.inl rfl
     pos:=by simp
     inj:=λi j v w _ _ _ _ _ _ h=>h
     low:=λj hj=>hj
     node:=λj v h hu=>by
      cases j with
      |zero =>
       simp at h;subst h;exact⟨h1,h2,.inl ⟨rfl,by simp[h3]⟩⟩
      |succ j=>simp at h }
   .show wU (S 0).l.length (S 0).x=true;rw[hl];exact avX
  dis:=λt u ht hu hne=>by
   have h1:t=0:=by simpa using ht
   have h2:u=0:=by simpa using hu
   omega }
 co:=.inl rfl
 my v hv:=by
  simp only[List.mem_singleton]at hv;subst hv;unfold awC at h6;show vJ [v,jn 1]=_;cases hq:vJ [v,jn 1]with
  |none=>rw[hq]at h6;cases h6
  |some u=>rw[hq]at h6;rw[jv h6]
 nd:=List.nodup_nil
 mem v:=by
  constructor
  .intro h;simp at h
  .rintro ⟨g1,g2⟩
   have:=hF.kpos v g1;have g3:0=K v:=g2;omega
 lst h:=by simp at h
def aju(mm:eF)(fns:Nat->Option bF)(n:Nat)(src:List V):Prop :=
 ∀(h:H) (uT:V) (sc:List V),Scr sc uT->sc.length<=600->(∀i,i<sc.length->∃b rest,skip i sc=.agg [.int .u8 (.ofNat b)]::rest/\b<256)->∃M j h2 k os s,XP n k os/\∀q,runM mm fns (M+q) (.call 6 [.list src false,.int .i64 3000,.int .i64 100,uT]) [] [] h=.val (asj k os s j) h2
theorem ab5{mm:eF}{fns:Nat->Option bF}(hR:WR mm fns)(hF:Facts C N S K)(hD:C.D=1)(hm:C.most=3000)(hd:C.deep=100)
  {rp rc rb:V} {src:List V} (hg:aeP C (S 0) rp rc rb=true)
  (Ku:ay mm 8 [.list src false]=some rp)
  (hcode:ay mm 9 [.agg [p0 rp,p1 rp]]=some rc)
  (hidx:ay mm 10 [p1 rp,.func (.func 11) [] []]=some (.int .i64 0))
  (ab8:ay mm 12 [.agg [C.ops,C.defs],.int .i64 0,.int .i64 3000]=some rb) :
  aju mm fns N src:=by
 intro h uT sc Gy hl6 hsc;unfold aeP at hg;simp only[ah]at hg;obtain⟨b1,b3,b4,b4',b5,b6,b7,b8,b9,b10,b11⟩:=hg;obtain⟨nd,hl⟩:∃nd,(S 0).l=[nd]:=by
  cases hq:(S 0).l with
  |nil=>rw[hq]at b1;cases b1
  |cons x r =>
   cases r with
   |nil=>exact⟨x,rfl⟩
   |cons y r=>rw[hq]at b1;cases b1
 rw[hl]at b1;have b1:avc C nd (S 0) rb=true:=b1;unfold avc at b1;simp only[ah]at b1;obtain⟨c1,c2,c3,c4,c5,c6,c7,c8⟩:=b1;obtain⟨vk,vn,hv1⟩:∃k n,aA (Fh rc) 1=.int k n:=by
  cases hq:aA (Fh rc) 1 with
  |int k n=>exact⟨k,n,rfl⟩
  |_=>rw[hq]at b11;cases b11
 have hW:=aqS hF (X:=.agg (subs (rA λj=>j) (S 0).x)) hD hl c2 c3 c4 (jv c5) (jv c6) (oU _ _ c7) c8 rfl b3 b4 (aP b4');have k1:=jv b5;have k2:=jv b10;have k3:=jv c1;rw[k1]at Ku;rw[k2]at hcode;rw[k3]at ab8;rw[<- hm]at ab8|-;rw[<- hd];obtain⟨q8,st,va,vb,t3,t4,t1,t2⟩:=axC (Jg hF.main).2.2.2;exact agT (Y:=mkY C N S K) (ab2 hF) (akU hF) t3 t4 t1 t2 hR hW (src:=.list src false) (ix:=0) ⟨_,_,rfl⟩ Ku hcode hidx ab8 ⟨vk,vn,hv1⟩ b6 b7 b8 b9 Gy hl6 hsc
end
section
def agk(C:Cst)(s:Ks):V:=.tuple [.agg [C.ops,C.defs,.list s.l false,.int .i64 C.most,.aj,jn 0,.aj,.list [.agg (subs (rA λj=>j) s.x)] true,.aj],.int .i64 (.ofNat 0)]
def avq(C:Cst):Bool:=nX C.ops&&(nX C.defs&&(aO C.ops&&(aO C.defs&&(lZ (dV C.ops) C.ops&&(lZ (dV C.defs) C.defs&&(fM C.ops&&(fM C.defs&&(match C.defs with|.list ds _=>Nat.beq ds.length 1&&aW ds|_=>false))))))))
end
structure ayk (C:Cst):Prop where
 p:nX C.ops=true
 pd:nX C.defs=true
 f:aO C.ops=true
 fd:aO C.defs=true
 w:dV C.ops=C.ops
 wd:dV C.defs=C.defs
 pl:fM C.ops=true
 pld:fM C.defs=true
 ds:∃ds ed,C.defs=.list ds ed/\ds.length=1/\aW ds=true
def aqa{C:Cst}(h:avq C=true):ayk C:=by
 unfold avq at h;simp only[ah]at h;obtain⟨h1,h2,h3,h4,h5,h6,h7,h8,h9⟩:=h;refine⟨h1,h2,h3,h4,jv h5,jv h6,h7,h8,?_⟩;cases hq:C.defs with
 |list ds ed =>
  rw[hq]at h9;simp only[ah]at h9;exact⟨ds,ed,rfl,aP h9.1,h9.2⟩
 |_=>rw[hq]at h9;cases h9
section
open Go Go.RowKit Go.Vx.Tab
section
def uu(n:Nat)(l:List V):List V:=Nat.rec l (λ_ ih=>.undef::ih) n
def cl9(p:Nat):List V:=[jn 1,j (-1),.aj,ad p,.aj,.aj,.aj,.aj,jn 0,jn 0,jn 0]
def nd9(a b:Nat):V:=A [jn a,jn b,S [],.aj]
def fs0(n:Nat):Ks:=⟨cl9 0,[nd9 4 (11*n+2)],1⟩
def fk(n t:Nat):Ks:=bif Nat.beq t 1 then⟨cl9 6,[A [jn 6,jn 0,S [],L [ad 5]],nd9 3 (11*n+1),A [jn 6,jn 0,S [],L [ad 8]],.undef,.undef,A [jn 2,jn 2,S [98,105,110,100,73,79],L [ad 2,ad 1]],nd9 4 4,.undef,A [jn 2,jn 1,S [102,111,114,107,73,79],L [ad 6]],.undef],2⟩else⟨cl9 (9*t-3),uu (9*t-3) [nd9 4 (9*t-5),.undef,.undef,.undef],t+1⟩
def fS(n t:Nat):Ks:=bif Nat.beq t 0 then fs0 n else fk n t
def fK(n t:Nat):Nat:=bif Nat.beq t 0 then 7+13*n else 7
def pe(n:Nat):V:=(en (132+n)).2.2
def ce(n:Nat):V:=dV (en (141+n)).2.2
def fcd(n:Nat):List V:=cellsD (aA (Fh (ce n)) 0)
def fC(n:Nat):Cst:=⟨aA (fcd n) 0,aA (fcd n) 1,3000,100,1⟩
def fF(n:Nat)(k:Cst->Bool):Bool:=fcV (fC n).ops λo=>fcV (fC n).defs λd=>k ⟨o,d,3000,100,1⟩
def mF(n:Nat):Bool:=fF n λc=>fcK (fs0 n) λs=>TQ c (fS n) n (7+13*n) s
def kmF(c:Cst)(n t:Nat)(s:Ks)(q:Nat):Bool:=Nat.rec true (λi ih=>PW c n t (t+1+i) 7 s&&ih) q
def kF(c:Cst)(n t:Nat):Bool:=fcK (fk n t) λs=>ahz c t 7 s&&kmF c n t s (n+1-t)
def gF(n a m:Nat):Bool:=fF n λc=>Nat.rec true (λi ih=>kF c n (a+1+i)&&ih) m
def rX(f:Nat)(a:List V)(v:V):Bool:=nY (nZ GH Tab.fns 1000000 (.call f a) zW bx0 emp) v&&(aW a&&aO v)
def cF(n:Nat):Bool:=fF n λc=>avq c&&(rX 71 [.agg [c.ops,c.defs]] (.bool true)&&(rX 12 [.agg [c.ops,c.defs],.int .i64 0,.int .i64 3000] (agk c (fs0 n))&&(rX 10 [p1 (pe n),.func (.func 11) [] []] (.int .i64 0)&&aeP c (fs0 n) (pe n) (ce n) (dV (agk c (fs0 n))))))
end
def aeJ(n:Nat)(k:Cst->Bool):fF n k=k (fC n):=by
 unfold fF;rw[Aw,Aw];rfl
def al3{c:Cst}{n t:Nat}{s:Ks}:∀{q:Nat},kmF c n t s q=true->∀i,i<q->PW c n t (t+1+i) 7 s=true
 |0,_,i,h=>by omega
 |q+1,h,i,hi=>by
  have h:(PW c n t (t+1+q) 7 s&&kmF c n t s q)=true:=h;rw[ah]at h;by_cases e:i=q
  .subst e;exact h.1
  .exact al3 h.2 i (by omega)
def KP(n m:Nat):Prop:=∀t,0<t->t<=m->kF (fC n) n t=true
def kp0(n:Nat):KP n 0:=λt h h1=>by omega
def TG{n a:Nat}(h:KP n a):∀{m:Nat},gF n a m=true->KP n (a+m)
 |0,_=>h
 |m+1,hg=>by
  unfold gF at hg;rw[aeJ]at hg;have hg:(kF (fC n) n (a+1+m)&&Nat.rec true (λi ih=>kF (fC n) n (a+1+i)&&ih) m)=true:=hg;rw[ah]at hg;have h2:KP n (a+m):=TG h (m:=m) (by unfold gF;rw[aeJ];exact hg.2);intro t t0 t1;by_cases e:t=a+1+m
  .subst e;exact hg.1
  .exact h2 t t0 (by omega)
def anf{f:Nat}{a:List V}{v:V}(h:rX f a v=true):EvT f a v:=by
 unfold rX at h;simp only[ah]at h;exact evX h.1 h.2.1 h.2.2
structure CF (n:Nat):Prop where
 cst:ayk (fC n)
 chk:EvT 71 [.agg [(fC n).ops,(fC n).defs]] (.bool true)
 beg:EvT 12 [.agg [(fC n).ops,(fC n).defs],.int .i64 0,.int .i64 3000] (agk (fC n) (fs0 n))
 ix:EvT 10 [p1 (pe n),.func (.func 11) [] []] (.int .i64 0)
 glue:aeP (fC n) (fS n 0) (pe n) (ce n) (dV (agk (fC n) (fs0 n)))=true
def IB{n:Nat}(h:cF n=true):CF n:=by
 unfold cF at h;rw[aeJ]at h;simp only[ah]at h;exact⟨aqa h.1,anf h.2.1,anf h.2.2.1,anf h.2.2.2.1,h.2.2.2.2⟩
end
end Go.Vx
