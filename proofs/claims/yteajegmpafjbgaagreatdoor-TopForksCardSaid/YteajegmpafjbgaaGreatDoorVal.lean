/- A part of the proof of TopForks. -/
import Derived.Test.YteajegmpafjbgaaGreatDoorVak
set_option linter.all false
set_option maxRecDepth 1000000
set_option maxHeartbeats 80000000
noncomputable section
open Go Go.RowKit
section
open Go Go.RowKit
namespace Go.Vx.Tab
def gcC:aN:=s (s (r [m 22 9,m 23 7,nc 24 23,fa 25 2 24,ld 26 25,ln 27 0 26,bt 28 .lss 22 27,m 29 28,h1 29 30 7,g1 29 31 (.tK (t 30)),g1 29 32 (f 4 31),g1 29 33 (l 32),g1 29 34 (.not (t 33)),kd 35 29 34]) (zx 35 0)) (s (.block 1 (s (r [m 38 7,m 39 7,nc 40 39,fa 41 2 40,ld 42 41,m 43 9,ia 44 4 42 43,fa 45 3 44,ld 46 45,k 47 190 [t 38,t 46],m 10 47]) (r [m 48 7,nc 49 48,fa 50 2 49,ld 51 50,m 52 9,m 53 10,ia 54 4 51 52,fa 55 3 54,st 1 55 53]))) (r [m 36 9,bi 37 .add 36 1,m 9 37]))
def aeN:(Tab.Nv).body=s (r [bv 2 0,o 4 (.alloc [.aj,j 0]),o 5 (.mv (c .aj)),ci 6 0]) (s (s (r [la 11 2 2,k 12 189 [t 11],nt 13 12]) (z 13 (s (r [la 14 2 2,st 2 4 14,o 5 (.mv (c .aj)),ci 6 140]) .ret) .skip)) (s (r [la 15 2 2,o 16 .mkMap,o 17 (.build [.aj,j 0,.aj,.fA,.bool false] [(0,2,t 15),(3,1,t 16)]),bh 18 17,m 7 18]) (s (r [m 19 7,m 20 1,k 21 190 [t 19,t 20],m 8 21]) (s (s (r [ci 9 0]) (bl 0 gcC)) (s (s (r [m 56 7,nc 57 56,fa 58 4 57,ld 59 58]) (z 59 (s (r [la 60 2 2,st 2 4 60,o 5 (.mv (c .aj)),ci 6 140]) .ret) .skip)) (s (.draw [m 61 7,nc 62 61,fa 63 2 62,ld 64 63,fa 65 1 2,ld 66 65,o 67 (.build [.aj,j 0] [(0,1,t 64),(1,1,t 66)]),m 68 8,st 2 4 67,m 5 68,ci 6 0]) .ret)))))):=rfl
end Go.Vx.Tab
namespace Go.Vx
variable {nk nn:Nat->Int}{nm:Nat->List Nat}
def ZT:∀(o:List Nat) (ks:List V) (i:Nat) (k:V),ks.length=o.length->ks[i]?=some k->∃rest,skip (i*4+3) (fl (uY nk nn nm o ks))=k::rest
 |[],ks,i,k,h,hk=>by
  have:ks=[]:=Bc.1 h;subst this;simp at hk
 |q::o,[],i,k,h,hk=>by simp at hk
 |q::o,y::ks,0,k,h,hk=>by
  simp at hk;subst hk;exact⟨fl (uY nk nn nm o ks),by simp[uY,fl,nd,V.cells,skip]⟩
 |q::o,y::ks,i+1,k,h,hk=>by
  obtain⟨rest,hr⟩:=ZT o ks i k (by simpa using h) (by simpa using hk);refine⟨rest,?_⟩;rw[show(i+1)*4+3=i*4+3+4 by omega];simp only[uY,fl,nd,V.cells,dZ,je,skip];exact hr
def Qn:∀(o:List Nat) (ks:List V) (i:Nat) (v:V),ks.length=o.length->i<o.length->splice (i*4+3) (fl (uY nk nn nm o ks)) [v]=some (fl (uY nk nn nm o (ks.set i v)))
 |[],ks,i,v,h,hi=>by simp at hi
 |q::o,[],i,v,h,hi=>by simp at h
 |q::o,y::ks,0,v,h,hi=>by simp[uY,fl,nd,V.cells,splice,bC,List.set_cons_zero]
 |q::o,y::ks,i+1,v,h,hi=>by
  have hr:=Qn o ks i v (by simpa using h) (by simpa using hi);rw[show(i+1)*4+3=i*4+3+4 by omega];simp only[uY,fl,nd,V.cells,dZ,je,splice,rO,hr]
variable {mm:eF}{h g:H}{mid mp tid axz L L2 i:Nat}{fr cs cs2 cs3 rest:List V}{lo:Lo}{v v2 kv a0 a1 b0 b1:V}
structure GI (fr:List V)(lo:Lo)(mid:Nat)(out:V)(a0 a1 b0 b1:V)(i:Nat):Prop where
 fl:fr.length=69
 s2:aA fr 2=.aY 2 0
 s4:aA fr 4=.aY 4 0
 s7:aA fr 7=.bg mid 0
 s8:aA fr 8=out
 s9:aA fr 9=jn i
 l2:dA lo 2=some [a0,a1]
 l4:dA lo 4=some [b0,b1]
def aqy{mpv x0 x1 y0 y1:V}(hI:GI fr lo mid v a0 a1 b0 b1 i)(hi:i<L)(hi2:i<L2)(hL:L<=1000000)(hc:getCells h mid=some [x0,x1,.hsl tid 0 L none 4,mpv,.bool false])(ht:getCells h tid=some cs)(hs:skip (i*4+3) cs=kv::rest)(hkv:wo kv=false)
  {N0:Nat} (ha:∀m,runM mm Tab.fns (N0+m) (.call 190 [.bg mid 0,kv]) [] [] h=.val v2 g)
  (hc2:getCells g mid=some [y0,y1,.hsl axz 0 L2 none 4,mpv,.bool false]) (ht2:getCells g axz=some cs2) (hsp:splice (i*4+3) cs2 [v2]=some cs3) (hv2:isVal v2=true) (aCI:v2.cells=[v2]) (aCJ:qW v2=true) :
  ∃aB,(∀m,runM mm Tab.fns (N0+m+500) (.code Tab.gcC) fr lo h=.norm aB lo (g.set axz (.cells cs3)))/\GI aB lo mid v a0 a1 b0 b1 (i+1):=by
 obtain⟨fl,s2,s4,s7,s8,s9,l2,l4⟩:=hI;have hb:Nat.ble (i+1) L=true:=dO (by omega);have hb2:Nat.ble (i+1) L2=true:=dO (by omega);have hw:Nat.blt (i+1) 9223372036854775808=true:=nP (by omega);have hw2:Nat.ble i 9223372036854775806=true:=dO (by omega);have hz:0+i*4+3=i*4+3:=by omega
 unfold jn at *;refine⟨?aB,?eq,?ai⟩
 case eq =>
  intro m;have ha2:=λk=>(show runM mm Tab.fns (N0+m+k) (.call 190 [.bg mid 0,kv]) [] [] h=.val v2 g by rw[gq];exact ha _);generalize N0+m=M at *;simp -implicitDefEqProofs only[Tab.gcC,WW,aS,aZ,aK,aC.ev,aC.evs,bG,aF,bH,skip,bf,Nat.beq,Nat.blt,Nat.ble,cO,dD,mV,eH,iK,eqK,OR.eU,LL9,Nat.reduceEqDiff,Nat.reduceLT,Nat.beq,fl,s7,s9,hb,hb2,hw2,hc,ht,hs,hkv,ha2,hc2,ht2,hsp,hv2,aCI,aCJ];rfl
 case ai =>
  constructor<;>first|rfl|simp only[LL9,Nat.reduceEqDiff,Nat.reduceLT,fl,s2,s4,s7,s8,l2,l4,jn]
def aqx{mpv x0 x1:V}(hI:GI fr lo mid v a0 a1 b0 b1 L)(hc:getCells h mid=some [x0,x1,.hsl tid 0 L none 4,mpv,.bool false]) :
  ∃aB,(∀m,runM mm Tab.fns (m+500) (.code Tab.gcC) fr lo h=.jump (.exit 0) aB lo h)/\GI aB lo mid v a0 a1 b0 b1 L:=by
 obtain⟨fl,s2,s4,s7,s8,s9,l2,l4⟩:=hI;have hb:Nat.ble (L+1) L=false:=tu (by omega);unfold jn at *;refine⟨?aB,?eq,?ai⟩
 case eq =>
  intro m;simp -implicitDefEqProofs only[Tab.gcC,WW,aS,aZ,aK,aC.ev,bG,aF,skip,Nat.blt,cO,dD,eH,eqK,OR.eU,LL9,Nat.reduceEqDiff,Nat.reduceLT,fl,s7,s9,hb,hc];rfl
 case ai =>
  constructor<;>first|rfl|simp only[LL9,Nat.reduceEqDiff,fl,s2,s4,s7,s8,s9,l2,l4,jn]
def gcD:aN:=(match(Tab.Nv).body with|.seq _ (.seq _ (.seq _ (.seq _ (.seq (.seq _ _) d))))=>d|c=>c)
def alg{pV:V}(fl:fr.length=69)(s0:aA fr 0=.agg [a0,a1])(s1:aA fr 1=v)(hv:wo v=false)(ho0:qW a0=true)(ho1:qW a1=true)(hlo:wo pV=false)
  (Kr:ay mm 189 [.agg [a0,a1]]=some (.bool true))
  {N0:Nat} (ha:∀m,runM mm Tab.fns (N0+m) (.call 190 [.bg (h.next+1) 0,v]) [] [] ((h.new (.map [])).new (.cells [a0,a1,.aj,.map h.next,.bool false]))=.val pV g) :
  ∃aB lo2,(∀m,runM mm Tab.fns (N0+m+300) (.code (Tab.Nv).body) fr [] h=jC (runM mm Tab.fns (N0+m+295)) gcD (iw 0 (runM mm Tab.fns (N0+m+293) (.code (.loop Tab.gcC)) aB lo2 g)))/\GI aB lo2 (h.next+1) pV a0 a1 .aj (jn 0) 0:=by
 have hkv:=λt=>PX (t:=t) hv;have ayW:=λN fr lo h=>dJ (fns:=Tab.fns) (n:=N) (fr:=fr) (lo:=lo) (h:=h) Kr;refine⟨?aB,?lo2,?eq,?ai⟩
 case eq =>
  intro m;have ha2:=λk=>(show runM mm Tab.fns (N0+m+k) (.call 190 [.bg (h.next+1) 0,v]) [] [] ((h.new (.map [])).new (.cells [a0,a1,.aj,.map h.next,.bool false]))=.val pV g by rw[gq];exact ha _);generalize N0+m=M at *;unfold gcD;rw[Tab.aeN];simp only[Tab.bl,Tab.s];rw[dR (M+292)];generalize aN.loop Tab.gcC=L;unfold jn at *;simp -implicitDefEqProofs only[WW,yc,dX,jX,vF,jK,aZ,aK,aC.ev,aC.evs,bG,aF,dA,eP,splice,bC,takeN,skip,Nat.reduceAdd,Nat.beq,LL9,Nat.reduceEqDiff,Nat.reduceLT,Nat.beq,fl,s0,s1,hv,ayW,hkv,ha2,iU];rfl
 case ai =>
  constructor<;>first|rfl|(simp only[LL9,Nat.reduceEqDiff,Nat.reduceLT,Nat.beq,fl,jn];done)|(simp only[LL9,Nat.reduceEqDiff,Nat.reduceLT,Nat.beq,fl,s0,s1,jn];rfl)
def avN{xH mpv x0 x1 pV:V}(hI:GI fr lo mid pV a0 a1 b0 b1 i)(hc:getCells h mid=some [x0,x1,xH,mpv,.bool false])(ht:isVal xH=true)(htc:xH.cells=[xH])(hto:qW xH=true)(h1:isVal a1=true)(h1c:a1.cells=[a1])(h1o:qW a1=true)(ho:bK pV=false)(hob:wo pV=false) :
  ∀N,wC Tab.Nv (jC (runM mm Tab.fns (N+200)) gcD (.norm fr lo h))=.val (.tuple [.agg [xH,a1],pV,jn 0]) h:=by
 intro N;obtain⟨fl,s2,s4,s7,s8,s9,l2,l4⟩:=hI;rw[iR];have e:(Tab.Nv).results=[(4,true,true,2),(5,false,false,0),(6,false,false,0)]:=rfl;have e2:(Tab.Nv).qo=false:=rfl;have e3:gcD=(match(Tab.Nv).body with|.seq _ (.seq _ (.seq _ (.seq _ (.seq (.seq _ _) d))))=>d|c=>c):=rfl;rw[Tab.aeN]at e3;rw[e3];generalize Tab.Nv=F at *;simp -implicitDefEqProofs only[WW,yc,dX,ajS,jX,vF,OC,aZ,aK,fG,aC.ev,bG,aF,bH,splice,bC,takeN,skip,bf,bK,Nat.reduceAdd,Nat.beq,finish,resV,dI,mk,LL9,Nat.reduceEqDiff,Nat.reduceLT,Nat.beq,fl,s2,s4,s7,s8,l2,l4,hc,ht,htc,hto,h1,h1c,h1o,e,e2];generalize pV=X at *;cases X<;>first|rfl|cases ho
end Go.Vx
end
namespace Go.Vx
section
variable {mm:eF}{h g:H}{mid mp i:Nat}{fr:List V}{lo:Lo}{a0 a1 b0 b1 pV xH:V}{nk nn:Nat->Int}{nm:Nat->List Nat}{o:List Nat}{ks:List V}{R:Nat->Prop}{T:Nat->Nat}{js:Nat->List Nat}{nl:Nat->Bool}
structure Done (R:Nat->Prop)(T:Nat->Nat)(js:Nat->List Nat)(nl:Nat->Bool)(h:H)(mid mp:Nat)(xH:V)(o:List Nat)(ks:List V)(i:Nat):Prop where
 is:∀j v q,j<i->ks[j]?=some v->o[j]?=some q->IS h 0 v ((js q).map λp=>o.idxOf (T p))/\(∀p∈js q,T p∈o)/\(v=.aj<->nl q=true)
 raw:∀j v q,i<=j->ks[j]?=some v->o[j]?=some q->KN (nl q) v (js q)
 ids:∀j v id,j<i->ks[j]?=some v->dw v id->id<h.next/\id≠mid/\id≠mp/\¬dw xH id
 sep:∀j k v w id,j<i->k<i->ks[j]?=some v->ks[k]?=some w->dw v id->dw w id->j=k
 R:∀q∈o,∃p,R p/\q=T p
def IS.lt{h:H}{lo:Nat}{v:V}{l:List Nat}(hi:IS h lo v l){id:Nat}(ht:dw v id):lo<=id/\id<h.next:=by
 obtain⟨b,c,d,e,hh⟩:=ht;cases hi with
 |nil=>cases hh
 |emp=>cases hh
 |own h1 h2 h3 h4=>cases hh;exact⟨h1,h2⟩
def IS.mono{h g:H}{lo lo2:Nat}{v:V}{l:List Nat}(hi:IS h lo v l)(hl:lo2<=lo)(hn:h.next<=g.next)(hg:∀id,dw v id->g.get id=h.get id):IS g lo2 v l:=by
 cases hi with
 |nil=>exact .nil
 |emp=>exact .emp
 |own h1 h2 h3 h4=>exact .own (by omega) (by omega) (by simp only[getCells,hg _ ⟨_,_,_,_,rfl⟩];exact h3) h4
def IS.raise{h:H}{lo lo2:Nat}{v:V}{l:List Nat}(hi:IS h lo v l)(hg:∀id,dw v id->lo2<=id):IS h lo2 v l:=by
 cases hi with
 |nil=>exact .nil
 |emp=>exact .emp
 |own h1 h2 h3 h4=>exact .own (hg _ ⟨_,_,_,_,rfl⟩) h2 h3 h4
def IS.vals{h:H}{lo:Nat}{v:V}{l:List Nat}(hi:IS h lo v l):isVal v=true/\v.cells=[v]/\qW v=true/\wo v=false/\bK v=false:=by cases hi<;>exact⟨rfl,rfl,rfl,rfl,rfl⟩
def KR.in{h:H}{v:V}{l:List Nat}(hk:KR v l):IIn h v l:=by
 rcases hk with h|h
 .exact .inl h
 .exact .inr (.inl h)
def MV.hsl(hM:MV nk nn nm h mid mp [a0,a1] xH o ks)(hi:i<o.length):∃tid,xH=.hsl tid 0 o.length none 4/\getCells h tid=some (fl (uY nk nn nm o ks))/\tid<h.next/\tid≠mid/\tid≠mp:=by
 rcases hM.t with⟨rfl,_⟩|h
 .simp at hi
 .exact h
def aeO(h0:mm 287=none)(h1:mm 190=none)(h2:mm 184=none)(hg:GcW mm [a0,a1] R T nk nn nm js nl)(hjs:∀q,(js q).length<=1000):∀(k i:Nat) (h:H) (fr:List V) (xH:V) (o:List Nat) (ks:List V),
  i+k=100001->i<=o.length->o≠[]->GI fr lo mid pV a0 a1 b0 b1 i->MV nk nn nm h mid mp [a0,a1] xH o ks->(∀j,dw xH j->j<h.next)->Bd R T o->Done R T js nl h mid mp xH o ks i ->
  ∃N aB g zO o2 PZ,(∀m,runM mm Tab.fns (N+m) (.code (.loop Tab.gcC)) fr lo h=.jump (.exit 0) aB lo g)/\GI aB lo mid pV a0 a1 b0 b1 o2.length/\MV nk nn nm g mid mp [a0,a1] zO o2 PZ/\(∀j,dw zO j->j<g.next)/\Bd R T o2 /\
   Done R T js nl g mid mp zO o2 PZ o2.length/\o <+: o2/\h.next<=g.next/\(∀j,j<h.next->j≠mid->j≠mp->¬dw xH j->(∀x v,x<i->ks[x]?=some v->¬dw v j)->g.get j=h.get j)/\(∀j,dw zO j->dw xH j\/h.next<=j) /\
   (∀x v j,PZ[x]?=some v->dw v j->(x<i/\ks[x]?=some v)\/h.next<=j)
 |0,i,h,fr,xH,o,ks,hk,hi,hne,hI,hM,hto,hB,hD=>by have:=hB.len;omega
 |k+1,i,h,fr,xH,o,ks,hk,hi,hne,hI,hM,hto,hB,hD=>by
  have hlen:=hB.len;rcases dP i o.length with hil|hil
  .
   obtain⟨tid,rfl,ht,htn,htm,htp⟩:=hM.hsl hil;have hkl:=hM.kl;obtain⟨kv,hkv⟩:∃kv,ks[i]?=some kv:=⟨_,bV (by omega)⟩;obtain⟨q,hq⟩:∃q,o[i]?=some q:=⟨_,bV hil⟩;have hK:=hD.raw i kv q (aJ _) hkv hq;obtain⟨z1,z2,z3,z4⟩:=hK.qW;obtain⟨pq,hpq,hqT⟩:=hD.R q (lK hq);have hRk:∀p∈js q,R p:=λp hp=>hg.kids pq hpq p (by rw[<- hqT];exact hp);obtain⟨N,g1,aok,NM,v2,r1,r2,r3,r4,r5,r6,r7,r8,r9,r10⟩:=aeo h0 h1 h2 hg (hK.1.in (h:=h)) (by have:=hjs q;omega) hM hto hRk hB;obtain⟨rest,hsk⟩:=ZT (nk:=nk) (nn:=nn) (nm:=nm) o ks i kv hkl hkv;have hpre:=NS T (js q) o;have hlt:i<(DL T o (js q)).length:=by have:=hpre.length_le;omega
   obtain⟨Ri,rfl,ht1,aCC,azs,azv⟩:=r2.hsl hlt;have ay8:=r2.kl;obtain⟨y1,y2,y3,y4,y5⟩:=r4.vals;have hc:=hM.c;have hc1:=r2.c;obtain⟨mP,e1,e2⟩:=aqy hI hil hlt (by omega) hc ht hsk z2 r1 hc1 ht1 (Qn _ _ i v2 ay8 hlt) y1 y2 y3;have hset:(ks++NM).set i v2=ks.set i v2++NM:=List.set_append_left _ _ (by omega);have hM2:MV nk nn nm (g1.set Ri (.cells (fl (uY nk nn nm (DL T o (js q)) ((ks++NM).set i v2))))) mid mp [a0,a1] (.hsl Ri 0 (DL T o (js q)).length none 4) (DL T o (js q)) ((ks++NM).set i v2) :=
    ⟨rfl,by rw[gy azs];exact hc1,by rw[FW azv];exact r2.m,.inr ⟨Ri,rfl,gG,aCC,azs,azv⟩,by rw[List.length_set];exact ay8,r2.lm,r2.lp,r2.ne⟩
   have aEQ:∀j v,j<i->ks[j]?=some v->((ks++NM).set i v2)[j]?=some v:=λj v hj hv=>by
    rw[List.getElem?_set_ne (by omega),jf (by omega)];exact hv
   have Hy:∀j v,j<i->((ks++NM).set i v2)[j]?=some v->ks[j]?=some v:=λj v hj hv=>by
    rw[List.getElem?_set_ne (by omega),jf (by omega)]at hv;exact hv
   have Tz:((ks++NM).set i v2)[i]?=some v2:=by rw[List.getElem?_set_self (by rw[bI];omega)]
   have alq:∀j x,j<o.length->(DL T o (js q))[j]?=some x->o[j]?=some x:=λj x hj hx=>by
    obtain⟨w,hw⟩:=hpre;rw[<- hw,jf hj]at hx;exact hx
   have hfr:∀id,id<h.next->id≠mid->id≠mp->¬dw (.hsl tid 0 o.length none 4) id->(g1.set Ri (.cells (fl (uY nk nn nm (DL T o (js q)) ((ks++NM).set i v2))))).get id=h.get id:=λid a1 a2 a3 a4=>by
    have hne1:Ri≠id:=λe=>by
     subst e;rcases r7 Ri ⟨_,_,_,_,rfl⟩with hh|hh
     .exact a4 hh
     .omega
    rw[eu _ hne1];exact r6 id a1 a2 a3 a4
   have hD2:Done R T js nl (g1.set Ri (.cells (fl (uY nk nn nm (DL T o (js q)) ((ks++NM).set i v2))))) mid mp (.hsl Ri 0 (DL T o (js q)).length none 4) (DL T o (js q)) ((ks++NM).set i v2) (i+1):=by
    refine⟨λj v x hj hv hx=>?_,λj v x hj hv hx=>?_,λj v id hj hv ht=>?_,λj l v w id hj hl hv hw t1 t2=>?_,λx hx=>?_⟩
    .rcases dP j i with hji|hji
     .have hv:=Hy j v hji hv;have hx:=alq j x (by omega) hx;obtain⟨s1,s2,s3⟩:=hD.is j v x hji hv hx;refine⟨?_,λp hp=>hpre.subset (s2 p hp),s3⟩;have e:((js x).map λp=>(DL T o (js q)).idxOf (T p))=(js x).map λp=>o.idxOf (T p):=List.map_congr_left λp hp=>VT hpre (s2 p hp);rw[e];refine s1.mono (aJ _) r5 λid hid=>?_;obtain⟨b1,b2,b3,b4⟩:=hD.ids j v id hji hv hid;exact hfr id b1 b2 b3 b4
     .have:j=i:=by omega
      subst this;rw[Tz]at hv;cases hv;have hx:=alq j x hil hx;rw[hq]at hx;cases hx;refine⟨r4.mono (eX _) (aJ _) λid hid=>?_,λp hp=>Jm T hp,r10.trans hK.2⟩;refine eu _ λe=>?_;subst e;exact(r8 _ hid).1 ⟨_,_,_,_,rfl⟩
    .have hji:i<j:=by omega
     rw[List.getElem?_set_ne (by omega)]at hv;rcases dP j ks.length with hjl|hjl
     .rw[jf hjl]at hv;exact hD.raw j v x (by omega) hv (alq j x (by omega) hx)
     .rw[rE hjl]at hv;exact r3 (j-ks.length) v x hv (by rw[show ks.length+(j-ks.length)=j by omega];exact hx)
    .rcases dP j i with hji|hji
     .have hv:=Hy j v hji hv;obtain⟨b1,b2,b3,b4⟩:=hD.ids j v id hji hv ht;refine⟨by show id<g1.next;omega,b2,b3,λhh=>?_⟩;rcases r7 id hh with hh|hh
      .exact b4 hh
      .omega
     .have:j=i:=by omega
      subst this;rw[Tz]at hv;cases hv;obtain⟨b1,b2⟩:=r8 id ht;have:=hM.lm;have:=hM.lp;exact⟨(r4.lt ht).2,by omega,by omega,b1⟩
    .have key:∀j v id,j<i->ks[j]?=some v->dw v id->¬dw v2 id:=λj v id hj hv t1 t2=>by
      have b1:=(hD.ids j v id hj hv t1).1;have b2:=(r8 id t2).2;omega
     rcases dP j i with hji|hji
     .have hv':=Hy j v hji hv;rcases dP l i with hli|hli
      .exact hD.sep j l v w id hji hli hv' (Hy l w hli hw) t1 t2
      .have aB9:l=i:=by omega
       rw[aB9,Tz]at hw;cases hw;exact absurd t2 (key j v id hji hv' t1)
     .have:j=i:=by omega
      subst this;rw[Tz]at hv;cases hv;rcases dP l j with hli|hli
      .exact absurd t1 (key l w id hli (Hy l w hli hw) t2)
      .omega
    .rcases WB hx with hx|⟨p,hp,rfl⟩
     .exact hD.R x hx
     .exact⟨p,hRk p hp,rfl⟩
   have aCD:∀j,dw (.hsl Ri 0 (DL T o (js q)).length none 4) j->j<(g1.set Ri (.cells (fl (uY nk nn nm (DL T o (js q)) ((ks++NM).set i v2))))).next:=λj hj=>r9 j hj;have hne2:DL T o (js q)≠[]:=λe=>by rw[e]at hlt;simp at hlt
   obtain⟨N2,aB,g2,zO,o2,PZ,t1,t2,t3,t4,t5,t6,t7,t8,t9,t10,t11⟩:=aeO h0 h1 h2 hg hjs k (i+1) _ mP _ _ _ (by omega) (by omega) hne2 e2 hM2 aCD (hB.DL hRk) hD2;have hgn:h.next<=(g1.set Ri (.cells (fl (uY nk nn nm (DL T o (js q)) ((ks++NM).set i v2))))).next:=r5;refine⟨N+N2+501,aB,g2,zO,o2,PZ,λm=>?_,t2,t3,t4,t5,t6,hpre.trans t7,by omega,λj j1 j2 j3 j4 j5=>?_,λj hj=>?_,λx v j hv hj=>?_⟩
   .have hk1:=e1 (N2+m);rw[show N+N2+501+m=(N+(N2+m)+500)+1 by omega,mQ (m:=0) hk1,show N+(N2+m)+500=N2+(N+m+500) by omega];exact t1 _
   .have f1:=hfr j j1 j2 j3 j4;rw[t9 j (by omega) j2 j3 (λhh=>by
     rcases r7 j hh with hh|hh
     .exact j4 hh
     .omega) (λx v hx hv hh=>by
     rcases dP x i with hxi|hxi
     .exact j5 x v hxi (Hy x v hxi hv) hh
     .have:x=i:=by omega
      subst this;rw[Tz]at hv;cases hv;have:=(r8 j hh).2;omega)]
    exact f1
   .rcases t10 j hj with hh|hh
    .exact r7 j hh
    .exact .inr (by omega)
   .rcases t11 x v j hv hj with⟨a1,a2⟩|hh
    .rcases dP x i with hxi|hxi
     .exact .inl ⟨hxi,Hy x v hxi a2⟩
     .have:x=i:=by omega
      subst this;rw[Tz]at a2;cases a2;exact .inr (r8 j hj).2
    .exact .inr (by omega)
  .
   have hio:i=o.length:=by omega
   subst hio;rcases hM.t with⟨he,_⟩|⟨tid,rfl,ht,htn,htm,htp⟩
   .exact absurd he hne
   .obtain⟨aB,e1,e2⟩:=aqx (mm:=mm) hI hM.c;refine⟨501,aB,h,_,o,ks,λm=>?_,e2,hM,hto,hB,hD,List.prefix_refl o,aJ _,λj _ _ _ _ _=>rfl,λj hj=>.inl hj,λx v j hv hj=>.inl ⟨?_,hv⟩⟩
    .rw[show 501+m=(m+500)+1 by omega];exact iM (e1 m)
    .have:=hM.kl;have:=(fB.1 hv).1;omega
end
section
variable {mm:eF}{h:H}{a0 a1 v:V}{nk nn:Nat->Int}{nm:Nat->List Nat}{R:Nat->Prop}{T:Nat->Nat}{js:Nat->List Nat}{ps:List Nat}{nl:Nat->Bool}
structure GcR (R:Nat->Prop)(T:Nat->Nat)(js:Nat->List Nat)(nl:Nat->Bool)(nk nn:Nat->Int)(nm:Nat->List Nat)(g:H)(lo:Nat)(tid:Nat)(pV:V)(ps o:List Nat)(ks:List V):Prop where
 cells:getCells g tid=some (fl (uY nk nn nm o ks))
 tlt:tid<g.next
 tlo:lo<=tid
 kl:ks.length=o.length
 out:IS g lo pV (ps.map λp=>o.idxOf (T p))
 outT:¬dw pV tid
 kids:∀(j:Nat) w q,ks[j]?=some w->o[j]?=some q->IS g lo w ((js q).map λp=>o.idxOf (T p))/\(∀p∈js q,T p∈o)/\(w=.aj<->nl q=true)
 azH:∀(j:Nat) w id,ks[j]?=some w->dw w id->id≠tid/\¬dw pV id
 sep:∀(j k:Nat) w u id,ks[j]?=some w->ks[k]?=some u->dw w id->dw u id->j=k
 nd:o.Nodup
 R:∀q∈o,∃p,R p/\q=T p
 roots:∀p∈ps,T p∈o
def avO(h0:mm 287=none)(h1:mm 190=none)(h2:mm 184=none)(h3:mm 79=none)(hg:GcW mm [a0,a1] R T nk nn nm js nl)(hjs:∀q,(js q).length<=1000)
  (Kr:ay mm 189 [.agg [a0,a1]]=some (.bool true)) (hi:IIn h v ps) (hvl:∀j,dw v j->j<h.next) (hl:ps.length<=1000000) (hne:ps≠[]) (hR:∀p∈ps,R p) (hT:∀p,R p->T p<100000)
  (ho0:qW a0=true) (k1:isVal a1=true) (k1c:a1.cells=[a1]) (k1o:qW a1=true) :
  ∃N g tid pV o ks,(∀m,runM mm Tab.fns (N+m) (.call 79 [.agg [a0,a1],v]) [] [] h=.val (.tuple [.agg [.hsl tid 0 o.length none 4,a1],pV,jn 0]) g)/\GcR R T js nl nk nn nm g h.next tid pV ps o ks/\h.next<=g.next/\∀j,j<h.next->g.get j=h.get j:=by
 obtain⟨hB,hhB⟩:∃hB,hB=(h.new (.map [])).new (.cells [a0,a1,.aj,.map h.next,.bool false]):=⟨_,rfl⟩;have nB:hB.next=h.next+2:=by rw[hhB];rfl
 have gB:∀j,j<h.next->hB.get j=h.get j:=λj hj=>by
  rw[hhB,iq _ (by rw[iU];omega),iq _ (by omega)]
 have hiB:IIn hB v ps:=by
  rcases hi with hi|hi|⟨id,rfl,hid⟩
  .exact .inl hi
  .exact .inr (.inl hi)
  .exact .inr (.inr ⟨id,rfl,by simp only[getCells,gB id (hvl id ⟨_,_,_,_,rfl⟩)];exact hid⟩)
 have hMB:MV nk nn nm hB (h.next+1) h.next [a0,a1] .aj [] []:=by
  refine⟨rfl,?_,?_,.inl ⟨rfl,rfl⟩,rfl,by omega,by omega,by omega⟩
  .rw[hhB];exact fO
  .rw[hhB];show gK ((h.new (.map [])).new _) h.next=some [];rw[Kq (by rw[iU];omega)];exact YV
 obtain⟨_,_,_,q4⟩:=Xv hiB;obtain⟨N,g1,xH,NM,pV,r1,r2,r3,r4,r5,r6,r7,r8,r9,_⟩:=aeo h0 h1 h2 hg hiB hl hMB (λj hj=>(by obtain⟨_,_,_,_,hh⟩:=hj;cases hh)) hR ⟨hT,λq hq=>by simp at hq,List.nodup_nil⟩;have hBd:Bd R T (DL T [] ps):=Bd.DL (o:=[]) ⟨hT,λq hq=>by simp at hq,List.nodup_nil⟩ hR;have hone:DL T [] ps≠[]:=by
  obtain⟨p,hp⟩:=List.exists_mem_of_ne_nil ps hne;intro e;have:=Jm T (o:=[]) hp;rw[e]at this;simp at this
 obtain⟨y1,y2,y3,y4,y5⟩:=r4.vals;obtain⟨aB,lo2,e1,e2⟩:=alg (mm:=mm) (h:=h) (g:=g1) (fr:=pad 69 [.agg [a0,a1],v]) (a0:=a0) (a1:=a1) (v:=v) (pV:=pV) rfl rfl rfl q4 ho0 k1o y4 Kr (N0:=N) (by rw[<- hhB];exact r1);rw[je]at r2;have hD0:Done R T js nl g1 (h.next+1) h.next xH (DL T [] ps) NM 0:=by
  refine⟨λj v q hj=>by omega,λj v q _ hv hq=>r3 j v q hv (by simpa using hq),λj v id hj=>by omega,λj k v w id hj=>by omega,λq hq=>?_⟩;rcases WB hq with hh|⟨p,hp,rfl⟩
  .simp at hh
  .exact⟨p,hR p hp,rfl⟩
 obtain⟨N2,AX,g2,zO,o2,PZ,t1,t2,t3,t4,t5,t6,t7,t8,t9,t10,t11⟩:=aeO (lo:=lo2) h0 h1 h2 hg hjs 100001 0 g1 aB xH (DL T [] ps) NM rfl (eX _) hone e2 r2 r9 hBd hD0;have azi:o2≠[]:=λe=>hone (by rw[e]at t7;exact List.prefix_nil.1 t7);have hpos:0<o2.length:=uN.2 azi;obtain⟨tid,rfl,z1,z2,z3,z4⟩:=t3.hsl hpos;have htl:h.next<=tid:=by
  rcases t10 tid ⟨_,_,_,_,rfl⟩with hh|hh
  .rcases r7 tid hh with⟨_,_,_,_,hh⟩|hh
   .cases hh
   .omega
  .omega
 have hkl:∀x w j,PZ[x]?=some w->dw w j->g1.next<=j:=λx w j hw hj=>by
  rcases t11 x w j hw hj with⟨hh,_⟩|hh
  .omega
  .exact hh
 have hout1:∀j,dw pV j->j<g1.next/\hB.next<=j/\¬dw xH j:=λj hj=>⟨(r4.lt hj).2,(r4.lt hj).1,(r8 j hj).1⟩;have hog:∀j,dw pV j->g2.get j=g1.get j:=λj hj=>by
  obtain⟨b1,b2,b3⟩:=hout1 j hj;exact t9 j b1 (by omega) (by omega) b3 (λx v hx=>by omega)
 have hix:(ps.map λp=>(DL T [] ps).idxOf (T p))=ps.map λp=>o2.idxOf (T p):=List.map_congr_left λp hp=>(VT t7 (Jm T hp)).symm;have hend:=avN (mm:=mm) (h:=g2) t2 (show getCells g2 (h.next+1)=some [a0,a1,.hsl tid 0 o2.length none 4,.map h.next,.bool false]from t3.c) rfl rfl rfl k1 k1c k1o y5 y4;have hb:=λN=>bn (mm:=mm) (n:=N) (f:=79) (a:=[.agg [a0,a1],v]) (fr:=[]) (lo:=[]) (h:=h) (by simp[ay,h3]) (show Tab.fns 79=some Tab.Nv from rfl) rfl;have hnt:(Tab.Nv).nt=69:=rfl;refine⟨N+N2+800,g2,tid,pV,o2,PZ,λm=>?_,⟨z1,z2,htl,t3.kl,?_,λhh=>?_,λj w q hw hq=>?_,λj w id hw hid=>?_,λj k w u id hw hu i1 i2=>?_,t5.nd,t6.R,λp hp=>t7.subset (Jm T hp)⟩,by omega,λj hj=>?_⟩
 .rw[show N+N2+800+m=(N+(N2+m+499)+300)+1 by omega,hb,hnt,e1,show N+(N2+m+499)+293=N2+(N+m+792) by omega,t1,iO];exact hend _
 .rw[<- hix];exact r4.mono (by omega) t8 hog
 .obtain⟨b1,b2,b3⟩:=hout1 tid hh;rcases t10 tid ⟨_,_,_,_,rfl⟩with h5|h5
  .exact b3 h5
  .omega
 .have hjl:j<o2.length:=(fB.1 hq).1;obtain⟨s1,s2,s3⟩:=t6.is j w q hjl hw hq;refine⟨?_,s2,s3⟩;have hge:∀id,dw w id->h.next<=id:=λid hid=>by have:=hkl j w id hw hid;omega
  exact s1.raise hge
 .have hjl:j<o2.length:=by have:=(fB.1 hw).1;have:=t3.kl;omega
  have h5:=(t6.ids j w id hjl hw hid).2.2.2;refine⟨λe=>h5 ⟨_,_,_,_,by rw[e]⟩,λhh=>?_⟩;have:=(hout1 id hh).1;have:=hkl j w id hw hid;omega
 .have hjl:j<o2.length:=by have:=(fB.1 hw).1;have:=t3.kl;omega
  have hkl2:k<o2.length:=by have:=(fB.1 hu).1;have:=t3.kl;omega
  exact t6.sep j k w u id hjl hkl2 hw hu i1 i2
 .have hnt:¬dw xH j:=λhh=>by
   rcases r7 j hh with⟨_,_,_,_,hh⟩|hh
   .cases hh
   .omega
  rw[t9 j (by omega) (by omega) (by omega) hnt (λx v hx=>by omega),r6 j (by omega) (by omega) (by omega) (λhh=>by obtain⟨_,_,_,_,hh⟩:=hh;cases hh)];exact gB j hj
end
end Go.Vx
section
open Go Go.RowKit
namespace Go.Vx.Tab
def coA:aN:=s (r [bt 28 .lss 27 26]) (s (zx 28 0) (s (.block 1 (s (r [m 29 27,m 6 29]) (r [ld 30 4,m 31 6,o 32 (.lit [j 0] 1 1 [(0,1,t 31)]),ap 33 1 30 32,st 1 4 33]))) (r [bi 34 .add 27 1,m 27 34])))
def coB:aN:=s (r [bt 45 .lss 44 43]) (s (zx 45 2) (s (.block 3 (s (r [ia 46 11 42 44,la 47 11 46,o 9 (.alloc [j 0,j 0,.aj,j 0,.aj,.aj,.aj,.aj,j 0,j 0,j 0]),st 11 9 47]) (r [la 48 11 9,m 49 7,k 50 78 [t 48,t 49]]))) (r [bi 51 .add 44 1,m 44 51])))
def coC:aN:=s (r [bt 76 .lss 75 74]) (s (zx 76 4) (s (.block 5 (r [m 77 15,m 78 14,.dyn (some 79) (t 78) [i 0],o 80 (.lit [j 0] 1 1 [(0,1,t 79)]),o 81 (.build [j 0,j 0,S [],.aj] [(0,1,i 6),(3,1,t 80)]),o 82 (.lit [j 0,j 0,S [],.aj] 4 1 [(0,4,t 81)]),ap 83 4 77 82,m 15 83])) (r [bi 84 .add 75 1,m 75 84])))
def coE:aN:=s (r [bt 96 .lss 95 94]) (s (zx 96 8) (s (.block 9 (s (r [m 97 95,m 18 97]) (.draw [fa 98 3 17,ld 99 98,m 100 18,ia 101 1 99 100,ld 102 101,ld 103 5,bt 104 .add 102 103,ia 105 1 99 100,st 1 105 104]))) (r [bi 106 .add 95 1,m 95 106])))
def coD:aN:=s (r [bt 89 .lss 88 87]) (s (zx 89 6) (s (.block 7 (s (r [ia 90 4 86 88,la 91 4 90,o 17 (.alloc [j 0,j 0,S [],.aj]),st 4 17 91]) (s (s (r [fa 92 3 17,ld 93 92,ln 94 0 93,ci 95 0]) (bl 8 coE)) (r [m 107 15,la 108 4 17,o 109 (.lit [j 0,j 0,S [],.aj] 4 1 [(0,4,t 108)]),ap 110 4 107 109,m 15 110])))) (r [bi 111 .add 88 1,m 88 111])))
def coF:aN:=s (r [bt 117 .lss 116 115]) (s (zx 117 10) (s (.block 11 (r [m 118 19,m 119 14,.dyn (some 120) (t 119) [i 0],o 121 (.lit [j 0] 1 1 [(0,1,t 120)]),ap 122 1 118 121,m 19 122])) (r [bi 123 .add 116 1,m 116 123])))
def coG:aN:=s (r [bt 145 .lss 144 143]) (s (zx 145 12) (s (.block 13 (s (r [m 146 144,ia 147 11 142 144,la 148 11 147,o 21 (.alloc [j 0,j 0,.aj,j 0,.aj,.aj,.aj,.aj,j 0,j 0,j 0]),m 20 146,st 11 21 148]) (.draw [fa 149 7 1,ld 150 149,m 151 20,la 152 11 21,m 153 14,k 154 78 [t 152,t 153],.chk none 150 (l 149),ia 155 11 150 151,st 11 155 154]))) (r [bi 156 .add 144 1,m 144 156])))
def agA:aN:=s (r [la 157 9 1,st 9 2 157,u1 3]) .ret
def akv:aN:=s (r [fa 125 4 1,la 126 2 125,m 127 19,k 128 81 [t 126,t 127],m 124 128,ex 129 0 124,ex 130 1 124,fa 131 4 1,st 2 131 129]) (s (r [m 132 15,fa 133 1 10,ld 134 133,o 135 (.build [.aj,j 0] [(0,1,t 132),(1,1,t 134)]),fa 136 2 1,st 2 136 135]) (s (r [fa 137 7 1,ld 138 137,k 139 82 [t 138],fa 140 7 1,st 1 140 139]) (s (s (r [fa 141 7 1,ld 142 141,ln 143 0 142,ci 144 0]) (bl 12 coG)) agA)))
def aku:aN:=s (r [o 19 (.mv (c .aj))]) (s (s (r [fa 112 4 1,fa 113 0 112,ld 114 113,ln 115 0 114,ci 116 0]) (bl 10 coF)) akv)
def agz:aN:=s (s (r [fa 85 0 10,ld 86 85,ln 87 0 86,ci 88 0]) (bl 6 coD)) aku
def akt:aN:=s (r [fa 53 2 1,la 54 2 53,ld 55 4,k 56 79 [t 54,t 55],m 52 56,ex 57 0 52,ex 58 1 52,ex 59 2 52,o 10 (.alloc [.aj,j 0]),o 11 (.jy [.aj]),st 2 10 57,st 1 11 58,m 12 59]) (s (s (r [m 60 12,o 61 (.eq true 0 (t 60) (i 0)),m 62 61,g0 62 63 (f 0 10),g0 62 64 (l 63),g0 62 65 (.len 0 (t 64)),g0 62 66 (l 5),g0 62 67 (.bin .add (t 65) (t 66)),g0 62 68 (f 1 10),g0 62 69 (l 68),g0 62 70 (.bin .gtr (t 67) (t 69)),ka 71 62 70]) (z 71 (s (r [la 72 9 1,st 9 2 72,u0 3]) .ret) .skip)) (s (r [o 13 (.jy [j 0]),q (.store 1 (t 13) (i 0))]) (s (r [o 73 (.l9 (.func 80) [] [t 13,t 11,t 5]),m 14 73]) (s (r [o 15 (.mv (c .aj))]) (s (s (r [ld 74 5,ci 75 0]) (bl 4 coC)) agz)))))
def aks:aN:=s (.draw [ld 35 4,fa 36 4 1,la 37 2 36,k 38 76 [t 37],.chk none 35 (l 4),ap 39 1 35 38,st 1 4 39]) (s (r [o 40 (.l9 (.func 77) [] [t 4]),m 7 40]) (s (s (r [fa 41 7 1,ld 42 41,ln 43 0 42,ci 44 0]) (bl 2 coB)) akt))
def apX:(Tab.Rn).body=s (r [bv 1 0,o 2 (.alloc [.aj,.aj,.aj,j 0,.aj,j 0,.aj,.aj,.aj]),u0 3]) (s (r [o 4 (.jy [.aj])]) (s (r [fa 22 0 1,fa 23 1 22,ld 24 23,ln 25 0 24,o 5 (.jy [j 0]),st 1 5 25]) (s (s (r [ld 26 5,ci 27 0]) (bl 0 coA)) aks))):=rfl
end Go.Vx.Tab
namespace Go.Vx
variable {mm:eF}{h h1 h2:H}{rid mb D n i:Nat}{fr:List V}{lo:Lo}{w0 w1 w2 w3 w4 w5 w6 w7 w8:V}
structure CI (fr:List V)(lo:Lo)(rid mb:Nat)(ws:List V):Prop where
 fl:fr.length=158
 s1:aA fr 1=.aY 1 0
 s2:aA fr 2=.aY 2 0
 s4:aA fr 4=.bg rid 0
 s5:aA fr 5=.bg mb 0
 l1:dA lo 1=some ws
 l2:∃a0 a1 a2 a3 a4 a5 a6 a7 a8,dA lo 2=some [a0,a1,a2,a3,a4,a5,a6,a7,a8]
structure CA (fr:List V)(lo:Lo)(rid mb:Nat)(ws:List V)(D i:Nat):Prop extends CI fr lo rid mb ws where
 s26:aA fr 26=jn D
 s27:aA fr 27=jn i
def akd{sl sl2:V}{ws:List V}(hI:CA fr lo rid mb ws D i)(hi:i<D)(hD:D<=1000000)(hc:getCells h rid=some [sl])(hsl:Vl sl)(hsl2:Vl sl2)(ha:ou h 1 sl 1 [jn i]=some (sl2,h2))(hc2:getCells h2 rid=some [sl]) :
  ∃aB,(∀N,runM mm Tab.fns (N+500) (.code Tab.coA) fr lo h=.norm aB lo (h2.set rid (.cells [sl2])))/\CA aB lo rid mb ws D (i+1):=by
 obtain⟨⟨fl,s1,s2,s4,s5,l1,l2⟩,s26,s27⟩:=hI;have hbl:Nat.blt i D=true:=nP hi;have hw:Nat.blt (i+1) 9223372036854775808=true:=nP (by omega);have hw2:Nat.ble i 9223372036854775806=true:=dO (by omega);have hbe:Nat.ble (i+1) D=true:=dO (by omega);have k1:=hsl.kl;have k2:=hsl2.kl;obtain⟨f1,f2,f3,f4⟩:=hsl;obtain⟨g1,g2,g3,g4⟩:=hsl2;unfold jn at *;refine⟨?aB,?eq,?ai⟩
 case eq =>
  intro N;simp -implicitDefEqProofs only[Tab.coA,WW,aS,aZ,aK,dN,aC.ev,bG,aF,bH,splice,bC,takeN,skip,bf,Nat.reduceMul,Nat.beq,Nat.blt,Nat.ble,cO,dD,mV,eH,iK,eqK,OR.eU,LL9,Nat.reduceEqDiff,Nat.reduceLT,Nat.beq,fl,s4,s26,s27,hbe,hw2,hc,hc2,g2,g3,g4,fH,bJ,xY,oO,ha,SK,chunk,elemOf,rep];rfl
 case ai =>
  constructor
  .constructor<;>first|exact l1|exact l2|(simp only[LL9,Nat.reduceEqDiff,fl,s1,s2,s4,s5];done)
  .simp only[LL9,Nat.reduceEqDiff,s26,jn]
  .simp only[LL9,Nat.reduceLT,fl,jn]
def akc{ws:List V}(hI:CA fr lo rid mb ws D D):∃aB,(∀N,runM mm Tab.fns (N+500) (.code Tab.coA) fr lo h=.jump (.exit 0) aB lo h)/\CA aB lo rid mb ws D D:=by
 obtain⟨⟨fl,s1,s2,s4,s5,l1,l2⟩,s26,s27⟩:=hI;have hb:Nat.ble (D+1) D=false:=tu (by omega);unfold jn at *;refine⟨?aB,?eq,?ai⟩
 case eq =>
  intro N;simp -implicitDefEqProofs only[Tab.coA,WW,aS,aZ,aK,aC.ev,bG,Nat.blt,cO,dD,eH,eqK,OR.eU,LL9,Nat.reduceLT,fl,s26,s27,hb];rfl
 case ai =>
  constructor
  .constructor<;>first|exact l1|exact l2|(simp only[LL9,Nat.reduceEqDiff,fl,s1,s2,s4,s5];done)
  .simp only[LL9,Nat.reduceEqDiff,s26,jn]
  .simp only[LL9,Nat.reduceEqDiff,s27,jn]
def akw{ds:List V}{e:Bool}(fl:fr.length=158)(s0:aA fr 0=.agg [w0,.list ds e,w2,w3,w4,w5,w6,w7,w8])(hok:bf [w0,.list ds e,w2,w3,w4,w5,w6,w7,w8]=true)(hD:ds.length=D) :
  ∃aB lo2,(∀m,runM mm Tab.fns (m+300) (.code (Tab.Rn).body) fr [] h=jC (runM mm Tab.fns (m+296)) Tab.aks (iw 0 (runM mm Tab.fns (m+294) (.code (.loop Tab.coA)) aB lo2 (((h.new (.cells [.aj])).new (.cells [jn 0])).set (h.next+1) (.cells [jn D])))))/\CA aB lo2 h.next (h.next+1) [w0,.list ds e,w2,w3,w4,w5,w6,w7,w8] D 0:=by
 simp only[bf,ah,cZ]at hok;obtain⟨o0,o1,o2,o3,o4,o5,o6,o7,o8⟩:=hok;have hg:getCells ((h.new (.cells [.aj])).new (.cells [jn 0])) (h.next+1)=some [jn 0]:=fO (h:=h.new (.cells [.aj]));refine⟨?aB,?lo2,?eq,?ai⟩
 case eq =>
  intro m;rw[Tab.apX];simp only[Tab.bl];rw[dR (m+293)];generalize aN.loop Tab.coA=L;generalize Tab.aks=D1;unfold jn at *;simp -implicitDefEqProofs only[WW,dX,jX,jK,aZ,aK,aC.ev,bG,aF,dA,eP,bH,splice,bC,skip,bf,Nat.beq,LL9,Nat.reduceEqDiff,Nat.reduceLT,Nat.beq,fl,s0,hD,iU,hg,gG];rfl
 case ai =>
  constructor
  .constructor<;>first|rfl|(simp only[LL9,Nat.reduceEqDiff,Nat.reduceLT,Nat.beq,fl];done)|exact⟨_,_,_,_,_,_,_,_,_,rfl⟩
  .simp only[LL9,Nat.reduceEqDiff,Nat.reduceLT,fl,jn]
  .simp only[LL9,Nat.reduceLT,fl,jn]
def NoC(c:V):Prop:=c=.aj\/∃e,c=.list [] e
def NoC.vl{c:V}(h:NoC c):Vl c:=by rcases h with rfl|⟨e,rfl⟩<;>exact⟨rfl,rfl,rfl,rfl⟩
def NoC.len{c:V}(hc:NoC c)(h:H):lenOf h 0 c=some 0:=by rcases hc with rfl|⟨e,rfl⟩<;>rfl
def aiE(h0:mm 76=none){c:V}(hc:NoC c)(ver:V)(hv:Vl ver)(N:Nat):runM mm Tab.fns (N+200) (.call 76 [.agg [c,ver]]) [] [] h=.val .aj h:=by
 have hl:=hc.len h;obtain⟨g1,g2,g3,g4⟩:=hv;have k1:=hc.vl.kl;obtain⟨f1,f2,f3,f4⟩:=hc.vl;have hz:qo .aj h=(.aj,h):=by simp[qo,dF,kQ]
 rw[bn (by simp[ay,h0]) (show Tab.fns 76=some Tab.atj from rfl) rfl];generalize c=C at *;simp -implicitDefEqProofs only[Tab.atj,WW,aS,aZ,aK,pad,aC.ev,fJ,bG,aF,dA,eP,skip,bK,Nat.beq,Nat.blt,Nat.ble,finish,resV,dI,cO,dD,eH,eqK,OR.eU,hl,hz]
structure CB (fr:List V)(lo:Lo)(rid mb:Nat)(ws:List V)(tv:V)(n i:Nat):Prop extends CI fr lo rid mb ws where
 s7:aA fr 7=.func (.func 77) [] [.bg rid 0]
 s42:aA fr 42=tv
 s43:aA fr 43=jn n
 s44:aA fr 44=jn i
def apY{sl:V}(hI:CA fr lo rid mb [w0,w1,w2,w3,w4,w5,w6,w7,w8] D D)(h0:mm 76=none)(hc4:NoC w4)(h5:Vl w5)(h7:Vl w7)(hc:getCells h rid=some [sl])(hsl:Vl sl)(hss:yH sl=true)(hlen:lenOf h 0 w7=some n)(hrm:h.set rid (.cells [sl])=h2)(hlen2:lenOf h2 0 w7=some n)(heq:nT sl sl=true) :
  ∃aB,(∀m,runM mm Tab.fns (m+400) (.code Tab.aks) fr lo h=jC (runM mm Tab.fns (m+397)) Tab.akt (iw 2 (runM mm Tab.fns (m+395) (.code (.loop Tab.coB)) aB lo h2)))/\CB aB lo rid mb [w0,w1,w2,w3,w4,w5,w6,w7,w8] w7 n 0:=by
 obtain⟨⟨fl,s1,s2,s4,s5,l1,l2⟩,s26,s27⟩:=hI;have hro:=λN=>aiE (h:=h) h0 hc4 w5 h5 N;have k7:=h7.kl;have ks:=hsl.kl;have k4:=hc4.vl.kl;have k5:=h5.kl;obtain⟨a1,a2,a3,a4⟩:=hc4.vl;obtain⟨b1,b2,b3,b4⟩:=h5;obtain⟨c1,c2,c3,c4⟩:=h7;obtain⟨f1,f2,f3,f4⟩:=hsl;have hap:ou h 1 sl 0 []=some (sl,h):=by simp only[ou,show Nat.beq 0 0=true from rfl,cond_true,hss]
 have hsrc:bJ h 1 0 .aj=some []:=rfl;refine⟨?aB,?eq,?ai⟩
 case eq =>
  intro m;unfold Tab.aks;simp only[Tab.bl];rw[dR (m+394)];generalize aN.loop Tab.coB=L;generalize Tab.akt=D1;unfold jn at *;simp -implicitDefEqProofs only[WW,dX,ajS,jX,jK,aZ,aK,dN,fG,aC.ev,aC.evs,bG,aF,bH,splice,bC,takeN,skip,bf,Nat.beq,yg,LL9,Nat.reduceEqDiff,Nat.reduceLT,Nat.beq,fl,s1,s4,l1,hc,hro,f2,f3,f4,fH,hsrc,hap,SK,heq,hrm,hlen2];rfl
 case ai =>
  constructor
  .constructor<;>first|exact l1|exact l2|(simp only[LL9,Nat.reduceEqDiff,fl,s1,s2,s4,s5];done)
  .simp only[LL9,Nat.reduceEqDiff,Nat.reduceLT,fl]
  .simp only[LL9,Nat.reduceEqDiff,Nat.reduceLT,fl]
  .simp only[LL9,Nat.reduceEqDiff,Nat.reduceLT,fl,jn]
  .simp only[LL9,Nat.reduceLT,fl,jn]
def akf{ws:List V}{xs:List V}{e:Bool}{tx r:V}(hI:CB fr lo rid mb ws (.list xs e) n i)(hi:i<n)(hn:n<=1000000)(hx:∃rest,skip i xs=tx::rest){cs:List V}(htx:tx=.agg cs)(hcs:cs.length=11)(hok:bf cs=true)
  {N0:Nat} (hp:∀m,runM mm Tab.fns (N0+m) (.call 78 [tx,.func (.func 77) [] [.bg rid 0]]) [] [] h=.val r h2) :
  ∃aB lo2,(∀m,runM mm Tab.fns (N0+m+500) (.code Tab.coB) fr lo h=.norm aB lo2 h2)/\CB aB lo2 rid mb ws (.list xs e) n (i+1):=by
 obtain⟨⟨fl,s1,s2,s4,s5,l1,a0,a1,a2,a3,a4,a5,a6,a7,a8,l2⟩,s7,s42,s43,s44⟩:=hI;obtain⟨rest,hx⟩:=hx;have hbl:Nat.blt i n=true:=nP hi;have hw:Nat.blt (i+1) 9223372036854775808=true:=nP (by omega);have hw2:Nat.ble i 9223372036854775806=true:=dO (by omega);have hbe:Nat.ble (i+1) n=true:=dO (by omega);subst htx
 match cs,hcs with
 |[x0,x1,x2,x3,x4,x5,x6,x7,x8,x9,x10],_ =>
  simp only[bf,ah,cZ]at hok;obtain⟨o0,o1,o2,o3,o4,o5,o6,o7,o8,o9,RG⟩:=hok;unfold jn at *;refine⟨?aB,?lo2,?eq,?ai⟩
  case eq =>
   intro m;have hp2:=λk=>(show runM mm Tab.fns (N0+m+k) (.call 78 [.agg [x0,x1,x2,x3,x4,x5,x6,x7,x8,x9,x10],.func (.func 77) [] [.bg rid 0]]) [] [] h=.val r h2 by rw[gq];exact hp _);generalize N0+m=M at *;simp -implicitDefEqProofs only[Tab.coB,WW,aS,aZ,aK,aC.ev,aC.evs,bG,aF,bH,splice,bC,takeN,skip,bf,Nat.reduceAdd,Nat.beq,Nat.blt,Nat.ble,cO,dD,mV,eH,iK,eqK,OR.eU,LL9,Nat.reduceEqDiff,Nat.reduceLT,Nat.beq,fl,s7,s42,s43,s44,hbe,hw2,hx,o0,o1,o2,o3,o4,o5,o6,o7,o8,o9,RG,hp2];rfl
  case ai =>
   constructor
   .constructor<;>first|(simp only[LL9,Nat.reduceEqDiff,Nat.beq,fl,s1,s2,s4,s5,l1];done)|exact⟨a0,a1,a2,a3,a4,a5,a6,a7,a8,by simp only[LL9,Nat.reduceEqDiff,l2]⟩
   .simp only[LL9,Nat.reduceEqDiff,s7]
   .simp only[LL9,Nat.reduceEqDiff,s42]
   .simp only[LL9,Nat.reduceEqDiff,s43,jn]
   .simp only[LL9,Nat.reduceLT,fl,jn]
def ake{ws:List V}{tv:V}(hI:CB fr lo rid mb ws tv n n):∃aB,(∀N,runM mm Tab.fns (N+500) (.code Tab.coB) fr lo h=.jump (.exit 2) aB lo h)/\CB aB lo rid mb ws tv n n:=by
 obtain⟨⟨fl,s1,s2,s4,s5,l1,l2⟩,s7,s42,s43,s44⟩:=hI;have hb:Nat.ble (n+1) n=false:=tu (by omega);unfold jn at *;refine⟨?aB,?eq,?ai⟩
 case eq =>
  intro N;simp -implicitDefEqProofs only[Tab.coB,WW,aS,aZ,aK,aC.ev,bG,Nat.blt,cO,dD,eH,eqK,OR.eU,LL9,Nat.reduceLT,fl,s43,s44,hb];rfl
 case ai =>
  constructor
  .constructor<;>first|exact l1|exact l2|(simp only[LL9,Nat.reduceEqDiff,fl,s1,s2,s4,s5];done)
  .simp only[LL9,Nat.reduceEqDiff,s7]
  .simp only[LL9,Nat.reduceEqDiff,s42]
  .simp only[LL9,Nat.reduceEqDiff,s43,jn]
  .simp only[LL9,Nat.reduceEqDiff,s44,jn]
end Go.Vx
end
namespace Go.Vx
section
variable {mm:eF}{h h1 h2:H}{rid mb D n i:Nat}{fr:List V}{lo:Lo}{ws:List V}
def NtS.split{base a b:List Nat}(h0:NtS rid base h (a++b)):NtS rid (base++a) h b:=by
 unfold NtS at *;rw[fP];exact h0
def Ye(hD:D<=1000):∀(k i:Nat) (h:H) (fr:List V),k+i=D->CA fr lo rid mb ws D i->NtS rid [] h (List.range i) ->
  ∃N aB g,(∀m,runM mm Tab.fns (N+m) (.code (.loop Tab.coA)) fr lo h=.jump (.exit 0) aB lo g)/\CA aB lo rid mb ws D D/\Lu (NtS rid []) (NtO rid) h g (List.range D)
 |0,i,h,fr,hk,hI,hS=>by
  rw[iF]at hk;subst hk;obtain⟨aB,e1,e2⟩:=akc (mm:=mm) (h:=h) hI;refine⟨501,aB,h,λm=>?_,e2,Lu.rfl' hS⟩;rw[show 501+m=(m+500)+1 by omega];exact iM (e1 m)
 |k+1,i,h,fr,hk,hI,hS=>by
  obtain⟨sl,sl2,h2,c1,c2,c3,c4,c5,c6,c7,c8,c9⟩:=afm hS i (by simp) (by simp;omega);obtain⟨mP,e1,e2⟩:=akd (mm:=mm) hI (by omega) (by omega) c1 c2 c3 c4 c5;obtain⟨N,aB,g,r1,r2,r3⟩:=Ye hD k (i+1) _ mP (by omega) e2 (by rw[List.range_succ];exact c6);have hL:Lu (NtS rid []) (NtO rid) h (h2.set rid (.cells [sl2])) (List.range i++[i]):=⟨c6,c7,c8,c9⟩;refine⟨N+501,aB,g,λm=>?_,r2,hL.trans r3⟩;have hk:=e1 (N+m);rw[show N+501+m=(N+m+500)+1 by omega,mQ (m:=0) hk,show N+m+500=N+(m+500) by omega];exact r1 _
def mO:List AV->List Nat
 |[]=>[]
 |t::ts=>G7 t++mO ts
def ThB(t:AV):Prop:=t.st.length<=1000/\t.ko.length<=1000/\(G7 t).length<=1000000
def Qs(t:AV):bf [jn t.kind,.int .i64 t.op,eV t.nE t.env,jn t.at_,sV t.nS (t.st.map DX),sV t.nK (t.ko.map AY),.aj,.aj,jn t.at2,.int .i64 t.fail,.int .i64 t.n]=true:=by
 simp only[bf,(OT t.nE t.env).o,(Ux t.nS (t.st.map DX)).o,(Ux t.nK (t.ko.map AY)).o,KO,Ak,BO,aU]
def Yf(hm:PlM mm)(h0:mm 77=none){base:List Nat}(hb:base.length<=1000)(hn:n<=1000000){e:Bool}{xs:List V}:∀(ts:List AV) (i:Nat) (acc:List Nat) (h:H) (fr:List V) (lo:Lo),
  CB fr lo rid mb ws (.list xs e) n i->i+ts.length=n->skip i xs=ts.map yP->(∀t∈ts,ThB t)->acc.length+(mO ts).length<=900000->NtS rid base h acc ->
  ∃N aB lo2 g,(∀m,runM mm Tab.fns (N+m) (.code (.loop Tab.coB)) fr lo h=.jump (.exit 2) aB lo2 g)/\CB aB lo2 rid mb ws (.list xs e) n n/\Lu (NtS rid base) (NtO rid) h g (acc++mO ts)
 |[],i,acc,h,fr,lo,hI,hl,hx,hB,hK,hS=>by
  simp at hl;subst hl;obtain⟨aB,e1,e2⟩:=ake (mm:=mm) (h:=h) hI;refine⟨501,aB,lo,h,λm=>?_,e2,?_⟩
  .rw[show 501+m=(m+500)+1 by omega];exact iM (e1 m)
  .simp only[mO,iY];exact Lu.rfl' hS
 |t::ts,i,acc,h,fr,lo,hI,hl,hx,hB,hK,hS=>by
  simp only[bP]at hl;simp only[mO,bI]at hK;obtain⟨b1,b2,b3⟩:=hB t bZ;obtain⟨N0,g0,p1,p2⟩:=am3 (amF h0 base hb) hm t hS (by omega) b1 b2 b3;obtain⟨mP,lo1,e1,e2⟩:=akf (mm:=mm) hI (by omega) hn ⟨_,hx⟩ rfl rfl (Qs t) p1;have hx2:skip (i+1) xs=ts.map yP:=by
   rw[pX]at hx|-;rw[<- List.drop_drop,hx];rfl
  obtain⟨N,aB,lo2,g,r1,r2,r3⟩:=Yf hm h0 hb hn ts (i+1) (acc++G7 t) g0 mP lo1 e2 (by omega) hx2 (λx hx=>hB x (bW _ hx)) (by rw[bI];omega) p2.s;refine⟨N+N0+501,aB,lo2,g,λm=>?_,r2,?_⟩
  .have hk:=e1 (N+m);rw[show N+N0+501+m=(N0+(N+m)+500)+1 by omega,mQ (m:=0) hk,show N0+(N+m)+500=N+(N0+m+500) by omega];exact r1 _
  .have:acc++mO (t::ts)=acc++G7 t++mO ts:=by simp only[mO,fP]
   rw[this];exact p2.trans r3
end
section
variable {mm:eF}{h h1 h2 g:H}{rid mb nb tb yU D n i L tid most:Nat}{fr:List V}{lo:Lo}{w0 w1 w2 w3 w4 w5 w6 w7 w8 v:V}{ws ns:List V}
def Ea(nb tb mb:Nat):V:=.func (.func 80) [] [.bg nb 0,.bg tb 0,.bg mb 0]
structure CE (fr:List V)(lo:Lo)(nb tb mb:Nat)(ws ns:List V)(v:V):Prop where
 fl:fr.length=158
 s1:aA fr 1=.aY 1 0
 s2:aA fr 2=.aY 2 0
 s5:aA fr 5=.bg mb 0
 s10:aA fr 10=.aY 10 0
 s14:aA fr 14=Ea nb tb mb
 s15:aA fr 15=v
 l1:dA lo 1=some ws
 l2:∃a0 a1 a2 a3 a4 a5 a6 a7 a8,dA lo 2=some [a0,a1,a2,a3,a4,a5,a6,a7,a8]
 l10:dA lo 10=some ns
structure CC (fr:List V)(lo:Lo)(nb tb mb:Nat)(ws ns:List V)(v:V)(D i:Nat):Prop extends CE fr lo nb tb mb ws ns v where
 s74:aA fr 74=jn D
 s75:aA fr 75=jn i
def apZ{sl pV tv:V}(hI:CB fr lo rid mb [w0,w1,w2,jn most,w4,w5,w6,w7,w8] tv n n)(hc:getCells h rid=some [sl])(hsl:Vl sl)(h2:Vl w2)
  {N0:Nat} (hgc:∀m,runM mm Tab.fns (N0+m) (.call 79 [.agg [w2,jn most],sl]) [] [] h=.val (.tuple [.agg [.hsl tid 0 L none 4,jn most],pV,jn 0]) g)
  (hmb:getCells g mb=some [jn D]) (hmn:mb<g.next) (ho:Vl pV) (hM:L+D<=most) (hL:most<=1000000) (aGk:∃cs,getCells g tid=some cs) (htn:tid<g.next)
  {h3:H} (hh3:((((g.new (.cells [.aj])).set g.next (.cells [pV])).new (.cells [jn 0])).set (g.next+1) (.cells [jn 0]))=h3) :
  ∃aB lo2,(∀m,runM mm Tab.fns (N0+m+500) (.code Tab.akt) fr lo h=jC (runM mm Tab.fns (N0+m+494)) Tab.agz (iw 4 (runM mm Tab.fns (N0+m+492) (.code (.loop Tab.coC)) aB lo2 h3)))/\CC aB lo2 (g.next+1) g.next mb [w0,w1,w2,jn most,w4,w5,w6,w7,w8] [.hsl tid 0 L none 4,jn most] .aj D 0:=by
 obtain⟨⟨fl,s1,s2,s4,s5,l1,a0,a1,a2,a3,a4,a5,a6,a7,a8,l2⟩,s7,s42,s43,s44⟩:=hI;have aCa:getCells (((g.new (.cells [.aj])).set g.next (.cells [pV])).new (.cells [jn 0])) mb=some [jn D]:=by
  rw[oD (by rw[qp,iU];omega),gy (by omega),oD (by omega)];exact hmb
 have aCb:getCells ((g.new (.cells [.aj])).set g.next (.cells [pV])) mb=some [jn D]:=by
  rw[gy (by omega),oD (by omega)];exact hmb
 have aCc:getCells h3 mb=some [jn D]:=by
  rw[<- hh3,gy (by omega)];exact aCa
 have hnb:getCells (((g.new (.cells [.aj])).set g.next (.cells [pV])).new (.cells [jn 0])) (g.next+1)=some [jn 0]:=fO (h:=(g.new (.cells [.aj])).set g.next (.cells [pV]));have w1':Nat.ble (L+D) 9223372036854775807=true:=dO (by omega);have w2':Nat.ble (Nat.succ most) (L+D)=false:=tu (by omega);have k2:=h2.kl;have ks:=hsl.kl;have ko:=ho.kl;obtain⟨b1,b2,b3,b4⟩:=h2;obtain⟨c1,c2,c3,c4⟩:=hsl;obtain⟨d1,d2,d3,d4⟩:=ho;unfold Ea at *;refine⟨?aB,?lo2,?eq,?ai⟩
 case eq =>
  intro m;have hp2:=λk=>(show runM mm Tab.fns (N0+m+k) (.call 79 [.agg [w2,jn most],sl]) [] [] h=.val (.tuple [.agg [.hsl tid 0 L none 4,jn most],pV,jn 0]) g by rw[gq];exact hgc _);generalize N0+m=M at *;unfold Tab.akt;simp only[Tab.bl];rw[dR (M+499)];generalize aN.loop Tab.coC=LL;generalize Tab.agz=D1;unfold jn at *;simp -implicitDefEqProofs only[WW,yc,dX,jX,vF,jK,aZ,aK,aC.ev,aC.evs,bG,aF,bH,splice,bC,takeN,skip,bf,Nat.reduceAdd,Nat.beq,Nat.blt,Nat.ble,cO,dD,mV,iK,eqK,nH,fU,gX,jU,OR.eU,LL9,Nat.reduceEqDiff,Nat.reduceLT,Nat.beq,fl,s1,s4,s5,l1,hc,hp2,ko,c1,d2,d3,d4,aCb,aCc,hnb,w1',w2',fO,iU,qp,hh3];rfl
 case ai =>
  constructor
  .constructor<;>first|(simp only[LL9,Nat.reduceEqDiff,Nat.reduceLT,Nat.beq,fl,s1,s2,s5,l1,Ea,jn];done)|exact⟨a0,a1,a2,a3,a4,a5,a6,a7,a8,by simp only[LL9,Nat.reduceEqDiff,l2]⟩
  .simp only[LL9,Nat.reduceEqDiff,Nat.reduceLT,fl,jn]
  .simp only[LL9,Nat.reduceLT,fl,jn]
end
section
variable {mm:eF}{h h1 h2 h3 g:H}{rid mb nb tb yU D n i L tid most x sz TP:Nat}{fr:List V}{lo:Lo}{v v2:V}{ws ns xs:List V}
def AS(sz:Nat)(h:H)(lo:Nat)(v:V)(xs:List V):Prop:=(xs=[]/\v=.aj)\/∃id,v=.hsl id 0 xs.length none sz/\getCells h id=some (fl xs)/\lo<=id/\id<h.next
def AS.vl{lo:Nat}(hA:AS sz h lo v xs):Vl v:=by
 rcases hA with⟨_,rfl⟩|⟨id,rfl,_⟩<;>exact⟨rfl,rfl,rfl,rfl⟩
def AS.mono{lo:Nat}(hA:AS sz h lo v xs)(hn:h.next<=g.next)(hg:∀j,dw v j->g.get j=h.get j):AS sz g lo v xs:=by
 rcases hA with hA|⟨id,rfl,a1,a2,a3⟩
 .exact .inl hA
 .refine .inr ⟨id,rfl,?_,a2,by omega⟩;simp only[getCells,hg id ⟨_,_,_,_,rfl⟩];exact a1
def AS.lt{lo j:Nat}(hA:AS sz h lo v xs)(hj:dw v j):lo<=j/\j<h.next:=by
 rcases hA with⟨_,rfl⟩|⟨id,rfl,a1,a2,a3⟩
 .obtain⟨_,_,_,_,hh⟩:=hj;cases hh
 .obtain⟨_,_,_,_,hh⟩:=hj;cases hh;exact⟨a2,a3⟩
def ajG{lo:Nat}{y:V}(hA:AS sz h lo v xs)(he:∀v∈xs,El sz v)(hl:xs.length<=1000000)(hlo:lo<=h.next) :
  ∃v2 h2,ou h sz v 1 y.cells=some (v2,h2)/\AS sz h2 lo v2 (xs++[y])/\h2.next=h.next+1/\(∀j,j<h.next->¬dw v j->h2.get j=h.get j)/\∀j,dw v2 j->h.next<=j:=by
 rcases hA with⟨rfl,rfl⟩|⟨id,rfl,a1,a2,a3⟩
 .refine⟨.hsl h.next 0 1 none sz,h.new (.cells y.cells),rfl,.inr ⟨h.next,rfl,?_,hlo,by rw[iU];omega⟩,rfl,λj j1 _=>iq _ (by omega),λj hj=>?_⟩
  .rw[fO];simp[fl]
  .obtain⟨_,_,_,_,hh⟩:=hj;cases hh;exact aJ _
 .have h1:bJ h sz xs.length (.hsl id 0 xs.length none sz)=some (fl xs):=by
   simp only[bJ,a1,show Nat.beq sz sz=true from jP sz,dO (aJ _),aU,cond_true];exact Gu (ab3 (λv hv=>(he v hv).1)).symm
  have h2:Nat.ble (xs.length+1) 16777216=true:=dO (by omega);refine⟨.hsl h.next 0 (xs.length+1) none sz,(h.del id).new (.cells (fl xs++y.cells)),?_,.inr ⟨h.next,by rw[bI];rfl,?_,hlo,by rw[iU,xg];omega⟩,by rw[iU,xg],λj j1 j2=>?_,λj hj=>?_⟩
  .simp only[ou,show Nat.beq 1 0=false from rfl,show Nat.beq sz sz=true from jP sz,show Nat.beq 0 0=true from rfl,cond_false,cond_true,Aq,h1,iJ,h2,xg]
  .rw[Bo];simp only[fl,iY];exact fO (h:=h.del id)
  .rw[iq _ (by rw[xg];omega),kE (λe=>j2 ⟨_,_,_,_,by rw[e]⟩)]
  .obtain⟨_,_,_,_,hh⟩:=hj;cases hh;exact aJ _
def Kv(x:Nat):V:=.agg [jn 6,jn 0,.str [],.list [jn x] true]
def akh(hI:CC fr lo nb tb mb ws ns v D i)(hi:i<D)(hD:D<=1000000)(hv:Vl v)(hv2:Vl v2)
  (hp:∀N,runM mm Tab.fns (N+100) (.app (Ea nb tb mb) [jn 0]) [] [] h=.val (jn x) h2) (ha:ou h2 4 v 1 (Kv x).cells=some (v2,h3)) :
  ∃aB,(∀N,runM mm Tab.fns (N+500) (.code Tab.coC) fr lo h=.norm aB lo h3)/\CC aB lo nb tb mb ws ns v2 D (i+1):=by
 obtain⟨⟨fl,s1,s2,s5,s10,s14,s15,l1,l2,l10⟩,s74,s75⟩:=hI;have hbl:Nat.blt i D=true:=nP hi;have hw:Nat.blt (i+1) 9223372036854775808=true:=nP (by omega);have hw2:Nat.ble i 9223372036854775806=true:=dO (by omega);have hbe:Nat.ble (i+1) D=true:=dO (by omega);have k1:=hv.kl;have k2:=hv2.kl;obtain⟨f1,f2,f3,f4⟩:=hv;obtain⟨g1,g2,g3,g4⟩:=hv2;replace ha:ou h2 4 v 1 [jn 6,jn 0,.str [],.list [jn x] true]=some (v2,h3):=ha;unfold jn Ea at *;refine⟨?aB,?eq,?ai⟩
 case eq =>
  intro N;simp -implicitDefEqProofs only[Tab.coC,WW,aS,aZ,aK,dN,aC.ev,aC.evs,bG,splice,bC,takeN,bf,Nat.reduceAdd,Nat.reduceMul,Nat.beq,Nat.blt,Nat.ble,cO,dD,mV,eH,iK,eqK,OR.eU,LL9,Nat.reduceEqDiff,Nat.reduceLT,Nat.beq,fl,s14,s15,s74,s75,hbe,hw2,fH,bJ,xY,oO,hp,ha,SK,chunk,elemOf,rep];rfl
 case ai =>
  constructor
  .constructor<;>first|exact l1|exact l2|exact l10|(simp only[LL9,Nat.reduceEqDiff,Nat.reduceLT,fl,s1,s2,s5,s10,s14,Ea];done)
  .simp only[LL9,Nat.reduceEqDiff,s74,jn]
  .simp only[LL9,Nat.reduceLT,fl,jn]
def akg(hI:CC fr lo nb tb mb ws ns v D D):∃aB,(∀N,runM mm Tab.fns (N+500) (.code Tab.coC) fr lo h=.jump (.exit 4) aB lo h)/\CC aB lo nb tb mb ws ns v D D:=by
 obtain⟨⟨fl,s1,s2,s5,s10,s14,s15,l1,l2,l10⟩,s74,s75⟩:=hI;have hb:Nat.ble (D+1) D=false:=tu (by omega);unfold jn Ea at *;refine⟨?aB,?eq,?ai⟩
 case eq =>
  intro N;simp -implicitDefEqProofs only[Tab.coC,WW,aS,aZ,aK,aC.ev,bG,Nat.blt,cO,dD,eH,eqK,OR.eU,LL9,Nat.reduceLT,fl,s74,s75,hb];rfl
 case ai =>
  constructor
  .constructor<;>first|exact l1|exact l2|exact l10|(simp only[LL9,Nat.reduceEqDiff,fl,s1,s2,s5,s10,s14,s15,Ea];done)
  .simp only[LL9,Nat.reduceEqDiff,s74,jn]
  .simp only[LL9,Nat.reduceEqDiff,s75,jn]
end
section
variable {mm:eF}{h h1 h2 h3 g:H}{rid mb nb tb yU D n i L tid most x TP K:Nat}{fr:List V}{lo:Lo}{v v2:V}{ws ns xs:List V}{res:Nat->Nat->Nat}{S:H->List Nat->Prop}{ow:H->Nat->Prop}
def inds(res:Nat->Nat->Nat):Nat->Nat->List V
 |_,0=>[]
 |c,k+1=>Kv (res c 0)::inds res (c+1) k
def aeX(x:Nat):El 4 (Kv x):=⟨rfl,rfl⟩
def VU(res:Nat->Nat->Nat):∀k c,∀v∈inds res c k,El 4 v
 |0,c,v,hv=>by simp[inds]at hv
 |k+1,c,v,hv=>by
  rcases bU.1 hv with rfl|hv
  .exact aeX _
  .exact VU res k (c+1) v hv
def zB(res:Nat->Nat->Nat):∀k c,(inds res c k).length=k
 |0,c=>rfl
 |k+1,c=>by simp[inds,zB res k]
def Yg(hC:U0 mm (Ea nb tb mb) K res S ow)(hD:D<=1000000):∀(k i:Nat) (acc:List Nat) (h:H) (fr:List V) (v:V) (xs:List V),
  k+i=D->CC fr lo nb tb mb ws ns v D i->S h acc->acc.length+k<=K->AS 4 h TP v xs->(∀v∈xs,El 4 v)->xs.length+k<=1000000->TP<=h.next->(∀j,dw v j->¬ow h j) ->
  ∃N aB v2 g,(∀m,runM mm Tab.fns (N+m) (.code (.loop Tab.coC)) fr lo h=.jump (.exit 4) aB lo g)/\CC aB lo nb tb mb ws ns v2 D D/\AS 4 g TP v2 (xs++inds res acc.length k)/\S g (acc++List.replicate k 0)/\h.next<=g.next /\
   (∀j,j<h.next->¬ow h j->¬dw v j->g.get j=h.get j)/\(∀j,ow g j->ow h j\/h.next<=j)/\(∀j,dw v2 j->dw v j\/h.next<=j)/\∀j,dw v2 j->¬ow g j
 |0,i,acc,h,fr,v,xs,hk,hI,hS,hK,hA,hE,hl,hlo,hno=>by
  rw[iF]at hk;subst hk;obtain⟨aB,e1,e2⟩:=akg (mm:=mm) (h:=h) hI;refine⟨501,aB,v,h,λm=>?_,e2,by simpa[inds]using hA,by simpa using hS,aJ _,λ_ _ _ _=>rfl,λj hj=>.inl hj,λj hj=>.inl hj,hno⟩;rw[show 501+m=(m+500)+1 by omega];exact iM (e1 m)
 |k+1,i,acc,h,fr,v,xs,hk,hI,hS,hK,hA,hE,hl,hlo,hno=>by
  obtain⟨h2,m1,m2,m3,m4,m5⟩:=hC.step h acc 0 hS (by omega);have hA2:AS 4 h2 TP v xs:=hA.mono m3 (λj hj=>m4 j (hA.lt hj).2 (hno j hj));have aCg:∀j,dw v j->¬ow h2 j:=λj hj hh=>by
   rcases m5 j hh with h5|h5
   .exact hno j hj h5
   .have:=(hA.lt hj).2;omega
  obtain⟨v2,h3,a1,a2,a3,a4,a5⟩:=ajG (y:=Kv (res acc.length 0)) hA2 hE (by omega) (by omega);obtain⟨s1,s2⟩:=hC.mono h2 h3 _ m2 (by omega) (λj hj=>a4 j (hC.lt h2 _ j m2 hj) (λhh=>aCg j hh hj));obtain⟨mP,e1,e2⟩:=akh (mm:=mm) hI (by omega) hD hA.vl a2.vl m1 a1;have av2:∀j,dw v2 j->¬ow h3 j:=λj hj hh=>by
   have:=hC.lt h2 _ j m2 (s2 j hh);have:=a5 j hj;omega
  obtain⟨N,aB,v3,g,r1,r2,r3,r4,r5,r6,r7,r8,r9⟩:=Yg hC hD k (i+1) (acc++[0]) h3 mP v2 (xs++[Kv (res acc.length 0)]) (by omega) e2 s1 (by simp;omega) a2
   (λv hv=>by
    rcases dH.1 hv with hv|hv
    .exact hE v hv
    .simp at hv;subst hv;exact aeX _) (by simp;omega) (by omega) av2
  have how:∀j,j<h.next->¬ow h j->¬ow h2 j:=λj j1 j2 hh=>by
   rcases m5 j hh with h5|h5
   .exact j2 h5
   .omega
  refine⟨N+501,aB,v3,g,λm=>?_,r2,?_,?_,by omega,λj j1 j2 j3=>?_,λj hj=>?_,λj hj=>?_,r9⟩
  .have hk:=e1 (N+m);rw[show N+501+m=(N+m+500)+1 by omega,mQ (m:=0) hk,show N+m+500=N+(m+500) by omega];exact r1 _
  .simpa[inds]using r3
  .simpa[List.replicate_succ]using r4
  .rw[r6 j (by omega) (λhh=>how j j1 j2 (s2 j hh)) (λhh=>by have:=a5 j hh;omega),a4 j (by omega) j3];exact m4 j j1 j2
  .rcases r7 j hj with hh|hh
   .exact m5 j (s2 j hh)
   .exact .inr (by omega)
  .rcases r8 j hj with hh|hh
   .exact .inr (by have:=a5 j hh;omega)
   .exact .inr (by omega)
end
end Go.Vx
section
open Go Go.RowKit
namespace Go.Vx.Tab
def aki:aN:=r [m 107 15,la 108 4 17,o 109 (.lit [j 0,j 0,S [],.aj] 4 1 [(0,4,t 108)]),ap 110 4 107 109,m 15 110]
def akj:aN:=r [bi 111 .add 88 1,m 88 111]
end Go.Vx.Tab
namespace Go.Vx
variable {mm:eF}{h h1 h2 h3 g:H}{rid mb nb tb yU D n i L tid most x TP K p j kY:Nat}{w:V}{fr:List V}{lo:Lo}{v v2 kv:V}{ws ns xs cs cs2 rest:List V}{k0 k1:Int}{nm:List Nat}
structure CD (fr:List V)(lo:Lo)(nb tb mb:Nat)(ws ns:List V)(v:V)(tid L i:Nat):Prop extends CE fr lo nb tb mb ws ns v where
 s86:aA fr 86=.hsl tid 0 L none 4
 s87:aA fr 87=jn L
 s88:aA fr 88=jn i
structure CK (fr:List V)(lo:Lo)(nb tb mb:Nat)(ws ns:List V)(v:V)(tid L i:Nat)(nc:List V)(n j:Nat):Prop extends CD fr lo nb tb mb ws ns v tid L i where
 NZ:aA fr 17=.aY 17 0
 l17:dA lo 17=some nc
 s94:aA fr 94=jn n
 Xj:aA fr 95=jn j
def ap0(hI:CC fr lo nb tb mb ws [.hsl tid 0 L none 4,w] v D D) :
  ∃aB,(∀m,runM mm Tab.fns (m+100) (.code Tab.agz) fr lo h=jC (runM mm Tab.fns (m+99)) Tab.aku (iw 6 (runM mm Tab.fns (m+97) (.code (.loop Tab.coD)) aB lo h)))/\CD aB lo nb tb mb ws [.hsl tid 0 L none 4,w] v tid L 0:=by
 obtain⟨⟨fl,s1,s2,s5,s10,s14,s15,l1,l2,l10⟩,s74,s75⟩:=hI;unfold jn Ea at *;refine⟨?aB,?eq,?ai⟩
 case eq =>
  intro m;unfold Tab.agz;simp only[Tab.bl];rw[dR (m+99)];generalize aN.loop Tab.coD=LL;generalize Tab.aku=D1;simp -implicitDefEqProofs only[WW,dX,jX,jK,aZ,aK,aC.ev,bG,aF,skip,LL9,Nat.reduceLT,fl,s10,l10];rfl
 case ai =>
  constructor
  .constructor<;>first|exact l1|exact l2|exact l10|(simp only[LL9,Nat.reduceEqDiff,fl,s1,s2,s5,s10,s14,s15,Ea];done)
  .simp only[LL9,Nat.reduceEqDiff,Nat.reduceLT,fl]
  .simp only[LL9,Nat.reduceEqDiff,Nat.reduceLT,fl,jn]
  .simp only[LL9,Nat.reduceLT,fl,jn]
def akl(hI:CD fr lo nb tb mb ws ns v tid L i)(hi:i<L)(hL:L<=1000000)(hc:getCells h tid=some cs)(hs:takeN 4 (skip (i*4) cs)=some [.int .i64 k0,.int .i64 k1,.str nm,kv])(hk:wo kv=false)(hl:lenOf h 0 kv=some n)(hv:Vl kv)(hvv:Vl v) :
  ∃aB lo2,(∀m,runM mm Tab.fns (m+300) (.code Tab.coD) fr lo h=jC (runM mm Tab.fns (m+297)) Tab.akj (iw 7 (jC (runM mm Tab.fns (m+294)) Tab.aki (iw 8 (runM mm Tab.fns (m+292) (.code (.loop Tab.coE)) aB lo2 h)))))/\CK aB lo2 nb tb mb ws ns v tid L i [.int .i64 k0,.int .i64 k1,.str nm,kv] n 0:=by
 obtain⟨⟨fl,s1,s2,s5,s10,s14,s15,l1,⟨a0,a1,a2,a3,a4,a5,a6,a7,a8,l2⟩,l10⟩,s86,s87,s88⟩:=hI;have hbl:Nat.blt i L=true:=nP hi;have hbe:Nat.ble (i+1) L=true:=dO (by omega);have hz:0+i*4=i*4:=by omega
 have kk:=hv.kl;have kv2:=hvv.kl;obtain⟨g1,g2,g3,g4⟩:=hv;unfold jn Ea at *;refine⟨?aB,?lo2,?eq,?ai⟩
 case eq =>
  intro m;rw[show Tab.coD=Tab.s (Tab.r [Tab.bt 89 .lss 88 87]) (Tab.s (Tab.zx 89 6) (Tab.s (.block 7 (Tab.s (Tab.r [Tab.ia 90 4 86 88,Tab.la 91 4 90,Tab.o 17 (.alloc [Tab.j 0,Tab.j 0,Tab.S [],.aj]),Tab.st 4 17 91]) (Tab.s (Tab.s (Tab.r [Tab.fa 92 3 17,Tab.ld 93 92,Tab.ln 94 0 93,Tab.ci 95 0]) (Tab.bl 8 Tab.coE)) Tab.aki))) Tab.akj))from rfl];simp only[Tab.bl];generalize aN.loop Tab.coE=LL;generalize Tab.aki=D1;generalize Tab.akj=D2;simp -implicitDefEqProofs only[WW,yc,dX,jX,vF,jK,aZ,aK,aC.ev,bG,aF,bH,splice,bC,skip,bf,Nat.reduceAdd,Nat.beq,Nat.blt,cO,dD,eH,eqK,OR.eU,LL9,Nat.reduceEqDiff,Nat.reduceLT,Nat.beq,fl,s86,s87,s88,hbe,hz,hc,hs,g4,hl];rfl
 case ai =>
  constructor
  .constructor
   .constructor<;>first|(simp only[LL9,Nat.reduceEqDiff,Nat.beq,fl,s1,s2,s5,s10,s14,s15,l1,l10,Ea,kv2];done)|exact⟨a0,a1,a2,a3,a4,a5,a6,a7,a8,by simp only[LL9,Nat.reduceEqDiff,l2]⟩
   .simp only[LL9,Nat.reduceEqDiff,s86]
   .simp only[LL9,Nat.reduceEqDiff,s87,jn]
   .simp only[LL9,Nat.reduceEqDiff,s88,jn]
  .simp only[LL9,Nat.reduceEqDiff,Nat.reduceLT,fl]
  .simp only[LL9]
  .simp only[LL9,Nat.reduceEqDiff,Nat.reduceLT,fl,jn]
  .simp only[LL9,Nat.reduceLT,fl,jn]
def akn(hI:CK fr lo nb tb mb ws ns v tid L i [.int .i64 k0,.int .i64 k1,.str nm,.hsl kY 0 n none 1] n j)(hj:j<n)(hn:n<=1000000)(hp:p<=1000000000)(hD:D<=1000000)(hc:getCells h kY=some cs)(hs:skip j cs=jn p::rest)(hm:getCells h mb=some [jn D])(hsp:splice j cs [jn (p+D)]=some cs2)(hkc:bK (.str nm)=false) :
  ∃aB,(∀N,runM mm Tab.fns (N+500) (.code Tab.coE) fr lo h=.norm aB lo (h.set kY (.cells cs2)))/\CK aB lo nb tb mb ws ns v tid L i [.int .i64 k0,.int .i64 k1,.str nm,.hsl kY 0 n none 1] n (j+1):=by
 obtain⟨⟨⟨fl,s1,s2,s5,s10,s14,s15,l1,l2,l10⟩,s86,s87,s88⟩,NZ,l17,s94,Xj⟩:=hI;have hbl:Nat.blt j n=true:=nP hj;have hw:Nat.blt (j+1) 9223372036854775808=true:=nP (by omega);have hw2:Nat.ble j 9223372036854775806=true:=dO (by omega);have hw3:Nat.ble (p+D) 9223372036854775807=true:=dO (by omega);have hbe:Nat.ble (j+1) n=true:=dO (by omega);unfold jn Ea at *;refine⟨?aB,?eq,?ai⟩
 case eq =>
  intro N;simp -implicitDefEqProofs only[Tab.coE,WW,aS,aZ,aK,fG,aC.ev,bG,aF,bH,skip,bf,Nat.beq,Nat.blt,Nat.ble,cO,dD,mV,eH,iK,eqK,OR.eU,LL9,Nat.reduceEqDiff,Nat.reduceLT,Nat.beq,fl,s5,NZ,s94,Xj,l17,hbe,hw2,hw3,hc,hs,hm,hsp,Nat.mul_one];rfl
 case ai =>
  constructor
  .constructor
   .constructor<;>first|exact l1|exact l2|exact l10|(simp only[LL9,Nat.reduceEqDiff,fl,s1,s2,s5,s10,s14,s15,Ea];done)
   .simp only[LL9,Nat.reduceEqDiff,s86]
   .simp only[LL9,Nat.reduceEqDiff,s87,jn]
   .simp only[LL9,Nat.reduceEqDiff,s88,jn]
  .simp only[LL9,Nat.reduceEqDiff,NZ]
  .exact l17
  .simp only[LL9,Nat.reduceEqDiff,s94,jn]
  .simp only[LL9,Nat.reduceLT,fl,jn]
def OQ{nc:List V}(hI:CK fr lo nb tb mb ws ns v tid L i nc n n):∃aB,(∀N,runM mm Tab.fns (N+500) (.code Tab.coE) fr lo h=.jump (.exit 8) aB lo h)/\CK aB lo nb tb mb ws ns v tid L i nc n n:=by
 obtain⟨⟨⟨fl,s1,s2,s5,s10,s14,s15,l1,l2,l10⟩,s86,s87,s88⟩,NZ,l17,s94,Xj⟩:=hI;have hb:Nat.ble (n+1) n=false:=tu (by omega);unfold jn Ea at *;refine⟨?aB,?eq,?ai⟩
 case eq =>
  intro N;simp -implicitDefEqProofs only[Tab.coE,WW,aS,aZ,aK,aC.ev,bG,Nat.blt,cO,dD,eH,eqK,OR.eU,LL9,Nat.reduceLT,fl,s94,Xj,hb];rfl
 case ai =>
  constructor
  .constructor
   .constructor<;>first|exact l1|exact l2|exact l10|(simp only[LL9,Nat.reduceEqDiff,fl,s1,s2,s5,s10,s14,s15,Ea];done)
   .simp only[LL9,Nat.reduceEqDiff,s86]
   .simp only[LL9,Nat.reduceEqDiff,s87,jn]
   .simp only[LL9,Nat.reduceEqDiff,s88,jn]
  .simp only[LL9,Nat.reduceEqDiff,NZ]
  .exact l17
  .simp only[LL9,Nat.reduceEqDiff,s94,jn]
  .simp only[LL9,Nat.reduceEqDiff,Xj,jn]
def akm(hI:CK fr lo nb tb mb ws ns v tid L i [.int .i64 k0,.int .i64 k1,.str nm,kv] n n)(hi:i<L)(hL:L<=1000000)(hk:Vl kv)(hv:Vl v)(hv2:Vl v2)(ha:ou h 4 v 1 [.int .i64 k0,.int .i64 k1,.str nm,kv]=some (v2,h3)) :
  ∃aB,(∀m,jC (runM mm Tab.fns (m+297)) Tab.akj (iw 7 (jC (runM mm Tab.fns (m+294)) Tab.aki (.norm fr lo h)))=.norm aB lo h3)/\CD aB lo nb tb mb ws ns v2 tid L (i+1):=by
 obtain⟨⟨⟨fl,s1,s2,s5,s10,s14,s15,l1,l2,l10⟩,s86,s87,s88⟩,NZ,l17,s94,Xj⟩:=hI;have hw:Nat.blt (i+1) 9223372036854775808=true:=nP (by omega);have hw2:Nat.ble i 9223372036854775806=true:=dO (by omega);have kk:=hk.kl;have k1':=hv.kl;have k2':=hv2.kl;obtain⟨d1,d2,d3,d4⟩:=hk;obtain⟨f1,f2,f3,f4⟩:=hv;obtain⟨g1,g2,g3,g4⟩:=hv2;unfold jn Ea at *;refine⟨?aB,?eq,?ai⟩
 case eq =>
  intro m;simp -implicitDefEqProofs only[Tab.aki,Tab.akj,WW,aS,aZ,aK,dN,aC.ev,bG,aF,splice,bC,takeN,skip,bf,Nat.reduceAdd,Nat.reduceMul,Nat.beq,Nat.blt,Nat.ble,cO,mV,iK,eqK,OR.eU,LL9,Nat.reduceEqDiff,Nat.reduceLT,Nat.beq,fl,s15,NZ,l17,s88,hw2,d4,fH,bJ,xY,oO,ha,SK,chunk,elemOf,rep];rfl
 case ai =>
  constructor
  .constructor<;>first|exact l1|exact l2|exact l10|(simp only[LL9,Nat.reduceEqDiff,Nat.reduceLT,fl,s1,s2,s5,s10,s14,Ea];done)
  .simp only[LL9,Nat.reduceEqDiff,s86]
  .simp only[LL9,Nat.reduceEqDiff,s87,jn]
  .simp only[LL9,Nat.reduceLT,fl,jn]
end Go.Vx
end
namespace Go.Vx
section
variable {mm:eF}{h h1 h2 h3 g:H}{rid mb nb tb yU D n i L tid most x TP lo1 K p j kY:Nat}{fr:List V}{lo:Lo}{v v2 kv w:V}{ws ns xs cs cs2 rest:List V}{k0 k1:Int}{nam:List Nat}{nk nn:Nat->Int}{nm:Nat->List Nat}
def Yi(hn:n<=1000000)(hD:D<=1000000)(hcm:kY≠mb)(hkc:bK (.str nam)=false):∀(ps ds:List Nat) (h:H) (fr:List V),
  CK fr lo nb tb mb ws ns v tid L i [.int .i64 k0,.int .i64 k1,.str nam,.hsl kY 0 n none 1] n ds.length->ds.length+ps.length=n->getCells h kY=some ((ds++ps).map jn)->getCells h mb=some [jn D]->(∀p∈ps,p<=1000000000) ->
  ∃N aB g,(∀m,runM mm Tab.fns (N+m) (.code (.loop Tab.coE)) fr lo h=.jump (.exit 8) aB lo g)/\CK aB lo nb tb mb ws ns v tid L i [.int .i64 k0,.int .i64 k1,.str nam,.hsl kY 0 n none 1] n n/\getCells g kY=some ((ds++ps.map (· + D)).map jn)/\g.next=h.next/\∀j,j≠kY->g.get j=h.get j
 |[],ds,h,fr,hI,hl,hc,hm,hp=>by
  simp at hl;subst hl;obtain⟨aB,e1,e2⟩:=OQ (mm:=mm) (h:=h) hI;refine⟨501,aB,h,λm=>?_,e2,by simpa using hc,rfl,λ_ _=>rfl⟩;rw[show 501+m=(m+500)+1 by omega];exact iM (e1 m)
 |p::ps,ds,h,fr,hI,hl,hc,hm,hp=>by
  simp only[bP]at hl;obtain⟨mP,e1,e2⟩:=akn (mm:=mm) hI (by omega) hn (hp p bZ) hD hc QN hm Ig hkc;obtain⟨N,aB,g,r1,r2,r3,r4,r5⟩:=Yi hn hD hcm hkc ps (ds++[p+D]) _ mP (by rw[bI];exact e2) (by simp;omega) gG (by rw[gy hcm];exact hm) (λq hq=>hp q (bW _ hq));refine⟨N+501,aB,g,λm=>?_,r2,?_,r4,λj hj=>?_⟩
  .have hk:=e1 (N+m);rw[show N+501+m=(N+m+500)+1 by omega,mQ (m:=0) hk,show N+m+500=N+(m+500) by omega];exact r1 _
  .rw[r3];simp
  .rw[r5 j hj,eu _ (Ne.symm hj)]
def awi{js:List Nat}(hi:IS h lo1 kv js):lenOf h 0 kv=some js.length:=by
 cases hi with
 |nil=>rfl
 |emp=>rfl
 |own hid hl hg hne=>exact yT _ _ _ _ _ _
def azG{js:List Nat}(hi:IS h lo1 kv js):Vl kv/\wo kv=false:=by
 cases hi<;>exact⟨⟨rfl,rfl,rfl,rfl⟩,rfl⟩
def ako{js:List Nat}(hi:IS h lo1 kv js)(hI:CK fr lo nb tb mb ws ns v tid L i [.int .i64 k0,.int .i64 k1,.str nam,kv] js.length 0)(hn:js.length<=1000000)(hD:D<=1000000)(hcm:¬dw kv mb)(hm:getCells h mb=some [jn D])(hp:∀p∈js,p<=1000000000) :
  ∃N aB g,(∀m,runM mm Tab.fns (N+m) (.code (.loop Tab.coE)) fr lo h=.jump (.exit 8) aB lo g)/\CK aB lo nb tb mb ws ns v tid L i [.int .i64 k0,.int .i64 k1,.str nam,kv] js.length js.length/\IS g lo1 kv (js.map (· + D))/\g.next=h.next/\∀j,¬dw kv j->g.get j=h.get j:=by
 cases hi with
 |nil =>
  obtain⟨aB,e1,e2⟩:=OQ (mm:=mm) (h:=h) hI;refine⟨501,aB,h,λm=>?_,e2,.nil,rfl,λ_ _=>rfl⟩;rw[show 501+m=(m+500)+1 by omega];exact iM (e1 m)
 |emp =>
  obtain⟨aB,e1,e2⟩:=OQ (mm:=mm) (h:=h) hI;refine⟨501,aB,h,λm=>?_,e2,.emp,rfl,λ_ _=>rfl⟩;rw[show 501+m=(m+500)+1 by omega];exact iM (e1 m)
 |own hid hl hg hne =>
  rename_i id;obtain⟨N,aB,g,r1,r2,r3,r4,r5⟩:=Yi (mm:=mm) hn hD (λe=>hcm ⟨_,_,_,_,by rw[e]⟩) rfl js [] h fr hI (by simp) hg hm hp;refine⟨N,aB,g,r1,r2,?_,r4,λj hj=>r5 j (λe=>hj (by subst e;exact⟨_,_,_,_,rfl⟩))⟩;have hlen:js.length=(js.map (· + D)).length:=by simp
  rw[hlen];exact .own hid (by omega) (by simpa using r3) (by simpa using hne)
def Qo:∀(o:List Nat) (ks:List V) (i:Nat) (k:V) (q:Nat),ks.length=o.length->ks[i]?=some k->o[i]?=some q->takeN 4 (skip (i*4) (fl (uY nk nn nm o ks)))=some [.int .i64 (nk q),.int .i64 (nn q),.str (nm q),k]/\(uY nk nn nm o ks)[i]?=some (nd (nk q) (nn q) (nm q) k)
 |[],ks,i,k,q,h,hk,hq=>by simp at hq
 |q'::o,[],i,k,q,h,hk,hq=>by simp at hk
 |q'::o,y::ks,0,k,q,h,hk,hq=>by
  simp at hk hq;subst hk hq;exact⟨by simp[uY,fl,nd,V.cells,skip,takeN],by simp[uY]⟩
 |q'::o,y::ks,i+1,k,q,h,hk,hq=>by
  obtain⟨h1,h2⟩:=Qo o ks i k q (by simpa using h) (by simpa using hk) (by simpa using hq);refine⟨?_,by simpa[uY]using h2⟩;rw[show(i+1)*4=i*4+4 by omega];simp only[uY,fl,nd,V.cells,dZ,je,skip];exact h1
def adg:∀(o:List Nat) (ks:List V),∀v∈uY nk nn nm o ks,El 4 v
 |[],ks,v,hv=>by simp[uY]at hv
 |q::o,[],v,hv=>by simp[uY]at hv
 |q::o,k::ks,v,hv=>by
  simp only[uY]at hv;rcases bU.1 hv with rfl|hv
  .exact⟨rfl,rfl⟩
  .exact adg o ks v hv
def CX{js:List Nat}(hi:IS h lo1 w js)(hn:h.next<=g.next)(hg:∀j,dw w j->g.get j=h.get j):IS g lo1 w js:=by
 cases hi with
 |nil=>exact .nil
 |emp=>exact .emp
 |own hid hl hgc hne=>exact .own hid (by omega) (by simp only[getCells,hg _ ⟨_,_,_,_,rfl⟩];exact hgc) hne
def akk(hI:CD fr lo nb tb mb ws ns v tid L L):∃aB,(∀N,runM mm Tab.fns (N+500) (.code Tab.coD) fr lo h=.jump (.exit 6) aB lo h)/\CE aB lo nb tb mb ws ns v:=by
 obtain⟨⟨fl,s1,s2,s5,s10,s14,s15,l1,l2,l10⟩,s86,s87,s88⟩:=hI;have hb:Nat.ble (L+1) L=false:=tu (by omega);unfold jn Ea at *;refine⟨?aB,?eq,?ai⟩
 case eq =>
  intro N;unfold Tab.coD;simp -implicitDefEqProofs only[WW,aS,aZ,aK,aC.ev,bG,Nat.blt,cO,dD,eH,eqK,OR.eU,LL9,Nat.reduceLT,fl,s87,s88,hb];rfl
 case ai =>
  constructor<;>first|exact l1|exact l2|exact l10|(simp only[LL9,Nat.reduceEqDiff,fl,s1,s2,s5,s10,s14,s15,Ea];done)
def Kid(ks:List V)(id:Nat):Prop:=∃(j:Nat) (w:V),ks[j]?=some w/\dw w id
def Yh{hz:H}(hD:D<=1000000){o:List Nat}{ks:List V}(hko:ks.length=o.length)(hL:o.length<=100000){J:Nat->List Nat}(hJ:∀q,(J q).length<=1000)(hJb:∀q,∀p∈J q,p<=1000000000)
  (hsep:∀(j k:Nat) w u id,ks[j]?=some w->ks[k]?=some u->dw w id->dw u id->j=k) (hkt:¬Kid ks tid) (hkm:¬Kid ks mb) {pre:List V} (hpre:∀v∈pre,El 4 v) (hpl:pre.length<=100000) (hlo:TP<=hz.next) :
  ∀(k i:Nat) (h:H) (fr:List V) (lo:Lo) (v:V),k+i=o.length->hz.next<=h.next->CD fr lo nb tb mb ws ns v tid o.length i->AS 4 h TP v (pre++(uY nk nn nm o ks).take i)->getCells h tid=some (fl (uY nk nn nm o ks))->tid<h.next->getCells h mb=some [jn D]->mb<h.next ->
   (∀(j:Nat) w q,ks[j]?=some w->o[j]?=some q->IS h lo1 w (if j<i then(J q).map (· + D)else J q))->(∀j,dw v j->¬Kid ks j/\j≠tid/\j≠mb) ->
   ∃N aB lo2 v2 g,(∀m,runM mm Tab.fns (N+m) (.code (.loop Tab.coD)) fr lo h=.jump (.exit 6) aB lo2 g)/\CE aB lo2 nb tb mb ws ns v2/\AS 4 g TP v2 (pre++uY nk nn nm o ks)/\h.next<=g.next /\
    (∀(j:Nat) w q,ks[j]?=some w->o[j]?=some q->IS g lo1 w ((J q).map (· + D)))/\(∀j,j<h.next->¬Kid ks j->¬dw v j->g.get j=h.get j)/\(∀j,dw v2 j->dw v j\/h.next<=j)/\(∀j,dw v2 j->¬Kid ks j/\j≠tid/\j≠mb)
 |0,i,h,fr,lo,v,hk,hn,hI,hA,hc,hct,hm,hmt,hK,hv=>by
  rw[iF]at hk;subst hk;obtain⟨aB,e1,e2⟩:=akk (mm:=mm) (h:=h) hI;refine⟨501,aB,lo,v,h,λm=>?_,e2,?_,aJ _,λj w q hw hq=>?_,λ_ _ _ _=>rfl,λj hj=>.inl hj,hv⟩
  .rw[show 501+m=(m+500)+1 by omega];exact iM (e1 m)
  .rw[List.take_of_length_le (by rw[wZ _ _ _ _ _ hko];exact aJ _)]at hA;exact hA
  .have:=hK j w q hw hq
   rwa[if_pos (fB.1 hq).1]at this
 |k+1,i,h,fr,lo,v,hk,hn,hI,hA,hc,hct,hm,hmt,hK,hv=>by
  have hi:i<o.length:=by omega
  have hik:i<ks.length:=by omega
  have hq:o[i]?=some o[i]:=bV hi;have hw:ks[i]?=some ks[i]:=bV hik;obtain⟨t1,t2⟩:=Qo (nk:=nk) (nn:=nn) (nm:=nm) o ks i _ _ hko hw hq;have hki:=hK i _ _ hw hq;rw[if_neg (Nat.lt_irrefl _)]at hki;obtain⟨b1,b2⟩:=azG hki;obtain⟨mP,azL,e1,e2⟩:=akl (mm:=mm) hI hi (by omega) hc t1 b2 (awi hki) b1 hA.vl;obtain⟨N1,aB,g1,r1,r2,r3,r4,r5⟩:=ako (mm:=mm) hki e2 (by have:=hJ o[i];omega) hD (λhh=>hkm ⟨i,_,hw,hh⟩) hm (hJb _);have Y1:∀j,dw ks[i] j->Kid ks j:=λj hj=>⟨i,_,hw,hj⟩;have hA1:AS 4 g1 TP v (pre++(uY nk nn nm o ks).take i):=hA.mono (by omega) (λj hj=>r5 j (λhh=>(hv j hj).1 (Y1 j hh)));have hel:∀v∈pre++(uY nk nn nm o ks).take i,El 4 v:=λv hv=>by
   rcases dH.1 hv with hv|hv
   .exact hpre v hv
   .exact adg o ks v (List.mem_of_mem_take hv)
  obtain⟨v2,h3,a1,a2,a3,a4,a5⟩:=ajG (y:=nd (nk o[i]) (nn o[i]) (nm o[i]) ks[i]) hA1 hel (by simp[wZ _ _ _ _ _ hko];omega) (by omega);obtain⟨AX,d1,d2⟩:=akm (mm:=mm) r2 hi (by omega) b1 hA1.vl a2.vl a1;have avY:∀j w id,ks[j]?=some w->dw w id->id<h.next:=λj w id hw hid=>by
   have hj:j<o.length:=by have:=(fB.1 hw).1;omega
   have hh:=hK j w _ hw (bV hj);obtain⟨_,_,_,_,rfl⟩:=hid;generalize (if j<i then _ else _)=Q at hh;cases hh;assumption
  have g3:∀j,j<h.next->¬dw ks[i] j->¬dw v j->h3.get j=h.get j:=λj j1 j2 j3=>by rw[a4 j (by omega) j3,r5 j j2]
  have hvk:∀id,Kid ks id->¬dw v id:=λid hid hh=>(hv id hh).1 hid;obtain⟨N2,J9,NP,v4,g4,q1,q2,q3,q4,q5,q6,q7,q8⟩:=Yh hD hko hL hJ hJb hsep hkt hkm hpre hpl hlo k (i+1) h3 AX azL v2 (by omega) (by omega) d2
   (by rw[List.take_succ,t2];simpa[fP]using a2)
   (by simp only[getCells,g3 tid hct (λhh=>hkt (Y1 _ hh)) (λhh=>(hv _ hh).2.1 rfl)];exact hc) (by omega)
   (by simp only[getCells,g3 mb hmt (λhh=>hkm (Y1 _ hh)) (λhh=>(hv _ hh).2.2 rfl)];exact hm) (by omega)
   (λj w q hwj hqj=>by
    by_cases hji:j=i
    .subst hji;rw[hw]at hwj;cases hwj;rw[hq]at hqj;cases hqj;rw[if_pos (by omega)];exact CX r3 (by omega) (λid hid=>a4 id (by have:=avY j _ id hw hid;omega) (hvk id (Y1 id hid)))
    .have hh:=hK j w q hwj hqj;have hif:(if j<i+1 then(J q).map (· + D)else J q)=(if j<i then(J q).map (· + D)else J q):=by
      by_cases h1:j<i
      .rw[if_pos h1,if_pos (by omega)]
      .rw[if_neg h1,if_neg (by omega)]
     rw[hif];exact CX hh (by omega) (λid hid=>g3 id (avY j w id hwj hid) (λh5=>hji (hsep j i w _ id hwj hw hid h5)) (hvk id ⟨j,w,hwj,hid⟩)))
   (λj hj=>⟨λhh=>by
    obtain⟨x,w,hx,hw2⟩:=hh;have:=avY x w j hx hw2;have:=a5 j hj;omega,by have:=a5 j hj;omega,by have:=a5 j hj;omega⟩)
  refine⟨N1+N2+800,J9,NP,v4,g4,λm=>?_,q2,q3,by omega,q5,λj j1 j2 j3=>?_,λj hj=>?_,q8⟩
  .have hk:runM mm Tab.fns (N1+N2+799+m) (.code Tab.coD) fr lo h=.norm AX azL h3:=by
    rw[show N1+N2+799+m=(N1+N2+499+m)+300 by omega,e1,show N1+N2+499+m+292=N1+(N2+791+m) by omega,r1,iO];exact d1 _
   rw[show N1+N2+800+m=(N1+N2+799+m)+1 by omega,mQ (m:=0) hk,show N1+N2+799+m=N2+(N1+799+m) by omega];exact q1 _
  .rw[q6 j (by omega) j2 (λhh=>by have:=a5 j hh;omega)];exact g3 j j1 (λhh=>j2 (Y1 j hh)) j3
  .rcases q7 j hj with hh|hh
   .exact .inr (by have:=a5 j hh;omega)
   .exact .inr (by omega)
end
end Go.Vx
section
open Go Go.RowKit
namespace Go.Vx.Tab
end Go.Vx.Tab
namespace Go.Vx
variable {mm:eF}{h h1 h2 h3 g:H}{rid mb nb tb yU D n i L tid most x TP lo1 K p j kY:Nat}{fr:List V}{lo:Lo}{v v2 kv w:V}{ws ns xs cs cs2 rest:List V}
def anX(h0:mm 191=none){c:V}(hc:NoC c)(ver:V)(hv:Vl ver)(N:Nat):runM mm Tab.fns (N+200) (.call 191 [.agg [c,ver]]) [] [] h=.val (.hsl h.next 0 0 (some 0) 2) ((h.new (.cells [])).set h.next (.cells [])):=by
 have hl:=hc.len h;obtain⟨g1,g2,g3,g4⟩:=hv;have k1:=hc.vl.kl;obtain⟨f1,f2,f3,f4⟩:=hc.vl;have hs:∀h:H,bJ h 2 0 c=some []:=by rcases hc with rfl|⟨e,rfl⟩<;>exact λ_=>rfl
 have hs2:fH c=some 0:=by rcases hc with rfl|⟨e,rfl⟩<;>rfl
 rw[bn (by simp[ay,h0]) (show Tab.fns 191=some Tab.afY from rfl) rfl];generalize c=C at *;simp -implicitDefEqProofs only[Tab.afY,WW,aS,aZ,aK,pad,aC.ev,fJ,bG,aF,dA,eP,splice,bC,skip,bf,bK,Nat.reduceAdd,Nat.beq,Nat.ble,finish,resV,dI,hl,hs,hs2,rep,zl,fO]
def ah2(h0:mm 191=none)(h1:mm 81=none){c:V}(hc:NoC c)(z:Int)(N:Nat) :
  runM mm Tab.fns (N+400) (.call 81 [.agg [c,.int .i64 z],.aj]) [] [] h=.val (.tuple [.agg [.list [] true,.int .i64 z],jn 0]) (((h.new (.cells [])).set h.next (.cells [])).del h.next):=by
 have hl:=hc.len h;have ho:=λN=>anX (h:=h) h0 hc (.int .i64 z) ⟨rfl,rfl,rfl,rfl⟩ N;have k1:=hc.vl.kl;obtain⟨f1,f2,f3,f4⟩:=hc.vl;have hfz:qo (.tuple [.agg [.hsl h.next 0 0 (some 0) 2,.int .i64 z],jn 0]) ((h.new (.cells [])).set h.next (.cells []))=(.tuple [.agg [.list [] true,.int .i64 z],jn 0],(((h.new (.cells [])).set h.next (.cells [])).del h.next)):=by
  have hg:((h.new (.cells [])).set h.next (.cells [])).get h.next=some (.cells []):=get_set_same _ _ _;simp only[qo,dF,hg,chunk,kQ,jn,show Nat.beq 0 0=true from rfl]
 unfold jn at *;rw[bn (by simp[ay,h1]) (show Tab.fns 81=some Tab.att from rfl) rfl];generalize c=C at *;simp -implicitDefEqProofs only[Tab.att,WW,aS,aZ,aK,pad,aC.ev,aC.evs,fJ,bG,aF,dA,eP,bH,splice,bC,takeN,skip,bf,bK,Nat.reduceAdd,Nat.beq,Nat.blt,Nat.ble,finish,resV,dI,mk,cO,dD,eH,eqK,nH,fU,gX,jU,OR.eU,hl,ho,hfz]
end Go.Vx
end
namespace Go.Vx
section
variable {mm:eF}{h h1 h2 h3 g:H}{rid mb nb tb yU D n i L tid most x TP lo1 K p j kY:Nat}{fr:List V}{lo:Lo}{v v2 kv w w0 w1 w2 w3 w4 w5 w6 w7 w8:V}{ws ns xs cs cs2 rest:List V}{ver:Int}
structure CL (fr:List V)(lo:Lo)(nb tb mb:Nat)(ws ns:List V)(v:V):Prop extends CE fr lo nb tb mb ws ns v where
 s19:aA fr 19=.aj
 asv:aA fr 115=jn 0
 asw:aA fr 116=jn 0
def ap1(hI:CE fr lo nb tb mb [w0,w1,w2,w3,w4,w5,w6,w7,w8] ns v)(hc4:NoC w4) :
  ∃aB,(∀m,runM mm Tab.fns (m+100) (.code Tab.aku) fr lo h=jC (runM mm Tab.fns (m+98)) Tab.akv (iw 10 (runM mm Tab.fns (m+96) (.code (.loop Tab.coF)) aB lo h)))/\CL aB lo nb tb mb [w0,w1,w2,w3,w4,w5,w6,w7,w8] ns v:=by
 obtain⟨fl,s1,s2,s5,s10,s14,s15,l1,l2,l10⟩:=hI;have k4:=hc4.vl.kl;have hl:=hc4.len h;obtain⟨a1,a2,a3,a4⟩:=hc4.vl;unfold jn Ea at *;refine⟨?aB,?eq,?ai⟩
 case eq =>
  intro m;unfold Tab.aku;simp only[Tab.bl];rw[dR (m+99)];generalize aN.loop Tab.coF=LL;generalize Tab.akv=D1;simp -implicitDefEqProofs only[WW,dX,jX,jK,aZ,aK,aC.ev,bG,aF,skip,LL9,Nat.reduceEqDiff,Nat.reduceLT,fl,s1,l1,hl];rfl
 case ai =>
  constructor
  .constructor<;>first|exact l1|exact l2|exact l10|(simp only[LL9,Nat.reduceEqDiff,fl,s1,s2,s5,s10,s14,s15,Ea];done)
  .simp only[LL9,Nat.reduceEqDiff,Nat.reduceLT,fl]
  .simp only[LL9,Nat.reduceEqDiff,Nat.reduceLT,fl,jn]
  .simp only[LL9,Nat.reduceLT,fl,jn]
def akp(hI:CL fr lo nb tb mb ws ns v):∃aB,(∀N,runM mm Tab.fns (N+500) (.code Tab.coF) fr lo h=.jump (.exit 10) aB lo h)/\CL aB lo nb tb mb ws ns v:=by
 obtain⟨⟨fl,s1,s2,s5,s10,s14,s15,l1,l2,l10⟩,s19,asv,asw⟩:=hI;unfold jn Ea at *;refine⟨?aB,?eq,?ai⟩
 case eq =>
  intro N;unfold Tab.coF;simp -implicitDefEqProofs only[WW,aS,aZ,aK,aC.ev,bG,Nat.blt,Nat.ble,cO,dD,eH,eqK,OR.eU,LL9,Nat.reduceLT,fl,asv,asw];rfl
 case ai =>
  constructor
  .constructor<;>first|exact l1|exact l2|exact l10|(simp only[LL9,Nat.reduceEqDiff,fl,s1,s2,s5,s10,s14,s15,Ea];done)
  .simp only[LL9,Nat.reduceEqDiff,s19]
  .simp only[LL9,Nat.reduceEqDiff,asv,jn]
  .simp only[LL9,Nat.reduceEqDiff,asw,jn]
structure CG (fr:List V)(lo:Lo)(nb tb mb:Nat)(ws:List V)(kY n i:Nat):Prop where
 fl:fr.length=158
 s1:aA fr 1=.aY 1 0
 s2:aA fr 2=.aY 2 0
 s14:aA fr 14=Ea nb tb mb
 l1:dA lo 1=some ws
 l2:∃a0 a1 a2 a3 a4 a5 a6 a7 a8,dA lo 2=some [a0,a1,a2,a3,a4,a5,a6,a7,a8]
 aiG:aA fr 142=.hsl kY 0 n none 11
 adI:aA fr 143=jn n
 aiH:aA fr 144=jn i
def ap2{hm hn:H}{e:Bool}(hI:CL fr lo nb tb mb [w0,w1,w2,w3,w4,.int .i64 ver,w6,.list xs e,w8] [w,jn most] v)(h0:mm 191=none)(h1:mm 81=none)(h2:mm 82=none)(hc4:NoC w4)(hv:Vl v)
  (hx:∀v∈xs,v.cells.length=11) (hok:bf (Go.Vx.fl xs)=true) (hl:xs.length<=1000000) (hne:xs≠[])
  (ehm:(((h.new (.cells [])).set h.next (.cells [])).del h.next)=hm) (ehn:hm.new (.cells (Go.Vx.fl xs))=hn) :
  ∃aB lo2,(∀m,runM mm Tab.fns (m+600) (.code Tab.akv) fr lo h=jC (runM mm Tab.fns (m+596)) Tab.agA (iw 12 (runM mm Tab.fns (m+594) (.code (.loop Tab.coG)) aB lo2 hn)))/\CG aB lo2 nb tb mb [w0,w1,v,jn most,.list [] true,.int .i64 ver,w6,.hsl hm.next 0 xs.length none 11,w8] hm.next xs.length 0:=by
 obtain⟨⟨fl,s1,s2,s5,s10,s14,s15,l1,⟨a0,a1,a2,a3,a4,a5,a6,a7,a8,l2⟩,l10⟩,s19,asv,asw⟩:=hI;have k4:=hc4.vl.kl;have hmv:=λN=>ah2 (h:=h) h0 h1 hc4 ver N;have hcl:=λN=>aj2 (h:=hm) h2 e hx hok hl hne N;rw[ehm]at hmv;rw[ehn]at hcl;have hlen:=λh:H=>yT h 0 hm.next xs.length none 11;obtain⟨b1,b2,b3,b4⟩:=hc4.vl;have kv:=hv.kl;obtain⟨g1,g2,g3,g4⟩:=hv;unfold jn Ea at *;generalize xs.length=XL at *;refine⟨?aB,?lo2,?eq,?ai⟩
 case eq =>
  intro m;unfold Tab.akv;simp only[Tab.bl];rw[dR (m+599)];generalize aN.loop Tab.coG=LL;generalize Tab.agA=D1;simp -implicitDefEqProofs only[WW,dX,jX,jK,aZ,aK,aC.ev,aC.evs,bG,aF,bH,splice,bC,takeN,skip,bf,Nat.reduceAdd,Nat.beq,OR.eU,LL9,Nat.reduceEqDiff,Nat.reduceLT,Nat.beq,fl,s1,s10,s15,s19,l1,l10,g2,g3,g4,hmv,hcl];rfl
 case ai =>
  constructor<;>first|(simp only[LL9,Nat.reduceEqDiff,Nat.reduceLT,fl,s1,s2,s14,Ea,jn];done)|exact⟨a0,a1,a2,a3,a4,a5,a6,a7,a8,by simp only[LL9,Nat.reduceEqDiff,l2]⟩
end
section
variable {mm:eF}{h h1 h2 h3 g:H}{rid mb nb tb yU D n i L tid most x TP lo1 K p j kY:Nat}{fr:List V}{lo:Lo}{v v2 kv w w0 w1 w2 w3 w4 w5 w6 w7 w8:V}{ws ns xs cs cs2 rest:List V}{ver:Int}{res:Nat->Nat->Nat}{S:H->List Nat->Prop}{ow:H->Nat->Prop}
def aeE(a b c e:Nat):nT (.hsl a b c none e) (.hsl a b c none e)=true:=by simp[nT,eqO]
def akr{x0 x1 x2 x3 x4 x5 x6 x7 x8 x9 x10 r0 r1 r2 r3 r4 r5 r6 r7 r8 r9 r10:V}(hI:CG fr lo nb tb mb [w0,w1,w2,w3,w4,w5,w6,.hsl kY 0 n none 11,w8] kY n i)(hi:i<n)(hn:n<=1000000)(hc:getCells h kY=some cs)
  (htk:takeN 11 (skip (i*11) cs)=some [x0,x1,x2,x3,x4,x5,x6,x7,x8,x9,x10]) (hok:bf [x0,x1,x2,x3,x4,x5,x6,x7,x8,x9,x10]=true) (hor:bf [r0,r1,r2,r3,r4,r5,r6,r7,r8,r9,r10]=true) {N0:Nat}
  (hp:∀m,runM mm Tab.fns (N0+m) (.call 78 [.agg [x0,x1,x2,x3,x4,x5,x6,x7,x8,x9,x10],Ea nb tb mb]) [] [] h=.val (.agg [r0,r1,r2,r3,r4,r5,r6,r7,r8,r9,r10]) g)
  (hcg:getCells g kY=some cs) (hsp:splice (i*11) cs [r0,r1,r2,r3,r4,r5,r6,r7,r8,r9,r10]=some cs2) :
  ∃aB lo2,(∀m,runM mm Tab.fns (N0+m+500) (.code Tab.coG) fr lo h=.norm aB lo2 (g.set kY (.cells cs2)))/\CG aB lo2 nb tb mb [w0,w1,w2,w3,w4,w5,w6,.hsl kY 0 n none 11,w8] kY n (i+1):=by
 obtain⟨fl,s1,s2,s14,l1,⟨a0,a1,a2,a3,a4,a5,a6,a7,a8,l2⟩,aiG,adI,aiH⟩:=hI;have hbl:Nat.blt i n=true:=nP hi;have hw:Nat.blt (i+1) 9223372036854775808=true:=nP (by omega);have hw2:Nat.ble i 9223372036854775806=true:=dO (by omega);have hbe:Nat.ble (i+1) n=true:=dO (by omega);have hz:0+i*11=i*11:=by omega
 simp only[bf,ah,cZ]at hok hor;obtain⟨o0,o1,o2,o3,o4,o5,o6,o7,o8,o9,RG⟩:=hok;obtain⟨q0,q1,q2,q3,q4,q5,q6,q7,q8,q9,q10⟩:=hor;have heq:=aeE kY 0 n 11;unfold jn Ea at *;refine⟨?aB,?lo2,?eq,?ai⟩
 case eq =>
  intro m;have hp2:=λk=>(show runM mm Tab.fns (N0+m+k) (.call 78 [.agg [x0,x1,x2,x3,x4,x5,x6,x7,x8,x9,x10],.func (.func 80) [] [.bg nb 0,.bg tb 0,.bg mb 0]]) [] [] h=.val (.agg [r0,r1,r2,r3,r4,r5,r6,r7,r8,r9,r10]) g by rw[gq];exact hp _);generalize N0+m=M at *;unfold Tab.coG;simp -implicitDefEqProofs only[WW,aS,aZ,aK,fG,aC.ev,aC.evs,bG,aF,bH,splice,bC,takeN,skip,bf,Nat.reduceAdd,Nat.beq,Nat.blt,Nat.ble,cO,dD,mV,eH,iK,eqK,OR.eU,yg,LL9,Nat.reduceEqDiff,Nat.reduceLT,Nat.beq,fl,s1,s14,aiG,adI,aiH,l1,hbe,hw2,hz,hc,htk,o0,o1,o2,o3,o4,o5,o6,o7,o8,o9,RG,q0,q1,q2,q3,q4,q5,q6,q7,q8,q9,q10,hp2,heq,hcg,hsp];rfl
 case ai =>
  constructor<;>first|(simp only[LL9,Nat.reduceEqDiff,Nat.reduceLT,Nat.beq,fl,s1,s2,s14,l1,aiG,adI,Ea,jn];done)|exact⟨a0,a1,a2,a3,a4,a5,a6,a7,a8,by simp only[LL9,Nat.reduceEqDiff,l2]⟩
def akq(hI:CG fr lo nb tb mb ws kY n n):∃aB,(∀N,runM mm Tab.fns (N+500) (.code Tab.coG) fr lo h=.jump (.exit 12) aB lo h)/\CG aB lo nb tb mb ws kY n n:=by
 obtain⟨fl,s1,s2,s14,l1,l2,aiG,adI,aiH⟩:=hI;have hb:Nat.ble (n+1) n=false:=tu (by omega);unfold jn Ea at *;refine⟨?aB,?eq,?ai⟩
 case eq =>
  intro N;unfold Tab.coG;simp -implicitDefEqProofs only[WW,aS,aZ,aK,aC.ev,bG,Nat.blt,cO,dD,eH,eqK,OR.eU,LL9,Nat.reduceLT,fl,adI,aiH,hb];rfl
 case ai =>
  constructor<;>first|exact l1|exact l2|(simp only[LL9,Nat.reduceEqDiff,fl,s1,s2,s14,aiG,adI,aiH,Ea,jn];done)
def avn{r:List V}(hI:CG fr lo nb tb mb ws kY n n)(hws:ws=[w0,w1,w2,w3,w4,w5,w6,w7,w8])(hok:bf [w0,w1,w2,w3,w4,w5,w6,w7,w8]=true)(hfz:qo (.tuple [.agg ws,.bool true]) h=(.tuple [v,.bool true],g))(m:Nat) :
  wC (Tab.Rn) (runM mm Tab.fns (m+100) (.code Tab.agA) fr lo h)=.val (.tuple [v,.bool true]) g:=by
 obtain⟨fl,s1,s2,s14,l1,⟨a0,a1,a2,a3,a4,a5,a6,a7,a8,l2⟩,aiG,adI,aiH⟩:=hI;subst hws;simp only[bf,ah,cZ]at hok;obtain⟨o0,o1,o2,o3,o4,o5,o6,o7,o8⟩:=hok;unfold Tab.agA;simp -implicitDefEqProofs only[Tab.Rn,WW,dX,jX,OC,aZ,aK,aC.ev,bG,aF,bH,splice,bC,takeN,skip,bf,bK,Nat.reduceAdd,Nat.beq,finish,resV,dI,mk,LL9,Nat.reduceEqDiff,Nat.reduceLT,Nat.beq,fl,s1,s2,l1,l2,hfz,o0,o1,o2,o3,o4,o5,o6,o7,o8]
end
section
variable {mm:eF}{h h1 h2 h3 g:H}{rid mb nb tb yU D n i L tid most x TP lo1 K p j kY:Nat}{fr:List V}{lo:Lo}{v v2 kv w w0 w1 w2 w3 w4 w5 w6 w7 w8:V}{ws ns xs cs cs2 rest:List V}{ver:Int}{res:Nat->Nat->Nat}{S:H->List Nat->Prop}{ow:H->Nat->Prop}
def Dx(res:Nat->Nat->Nat):Nat->List AV->List V
 |_,[]=>[]
 |c,t::ts=>thR res c t::Dx res (c+(G7 t).length) ts
def aa2(res:Nat->Nat->Nat):∀(ts:List AV) (c:Nat),(Dx res c ts).length=ts.length
 |[],c=>rfl
 |t::ts,c=>by simp only[Dx,bP,aa2 res ts]
def axy(t:AV)(c:Nat):El 11 (thR res c t):=⟨rfl,rfl⟩
def afz(b:Bool)(l:List V)(h:aW l=true):aO (rS b l)=true:=by
 cases b with
 |true=>rfl
 |false=>cases l with
  |nil=>rfl
  |cons a l=>exact h
def aog(t:AV)(c:Nat):aO (thR res c t)=true:=by
 have e1:=(VF res (c+(hp t).length+t.env.length) t.st).2;have e2:=(V9 res (c+(hp t).length+t.env.length+(wQ t.st).length) t.ko).2;simp only[thR,aO,aW,jn,U5,afz _ _ e1,afz _ _ e2,aU]
def XE:∀(ts:List AV) (c:Nat),(∀v∈Dx res c ts,El 11 v)/\aW (Dx res c ts)=true
 |[],c=>⟨λv hv=>by simp[Dx]at hv,rfl⟩
 |t::ts,c=>by
  obtain⟨h1,h2⟩:=XE ts (c+(G7 t).length);refine⟨λv hv=>?_,?_⟩
  .rcases bU.1 hv with rfl|hv
   .exact axy t c
   .exact h1 v hv
  .simp only[Dx,aW,aog,h2,aU]
def Md:∀ts:List AV,bf (fl (ts.map yP))=true
 |[]=>rfl
 |t::ts=>by
  have h1:=Qs t;simp only[bf,ah]at h1;obtain⟨a0,a1,a2,a3,a4,a5,a6,a7,a8,a9,a10,_⟩:=h1;simp only[bD,fl,yP,V.cells,dZ,je,bf,a0,a1,a2,a3,a4,a5,a6,a8,a9,a10,Md ts,aU]
def Yj(hC:U0 mm (Ea nb tb mb) K res S ow)(hm:PlM mm)(hn:n<=1000000):∀(ts:List AV) (ds:List V) (acc:List Nat) (h:H) (fr:List V) (lo:Lo),
  CG fr lo nb tb mb [w0,w1,w2,w3,w4,w5,w6,.hsl kY 0 n none 11,w8] kY n ds.length->(∀v∈ds,v.cells.length=11)->ds.length+ts.length=n->getCells h kY=some (fl (ds++ts.map yP))->S h acc->acc.length+(mO ts).length<=K->(∀t∈ts,ThB t)->¬ow h kY->kY<h.next ->
  ∃N aB lo2 g,(∀m,runM mm Tab.fns (N+m) (.code (.loop Tab.coG)) fr lo h=.jump (.exit 12) aB lo2 g)/\CG aB lo2 nb tb mb [w0,w1,w2,w3,w4,w5,w6,.hsl kY 0 n none 11,w8] kY n n/\getCells g kY=some (fl (ds++Dx res acc.length ts))/\S g (acc++mO ts)/\h.next<=g.next/\(∀j,j<h.next->j≠kY->¬ow h j->g.get j=h.get j)/\(∀j,ow g j->ow h j\/h.next<=j)/\¬ow g kY
 |[],ds,acc,h,fr,lo,hI,hds,hl,hc,hS,hK,hB,c1,c2=>by
  simp at hl;subst hl;obtain⟨aB,e1,e2⟩:=akq (mm:=mm) (h:=h) hI;refine⟨501,aB,lo,h,λm=>?_,e2,by simpa[Dx]using hc,by simpa[mO]using hS,aJ _,λ_ _ _ _=>rfl,λj hj=>.inl hj,c1⟩;rw[show 501+m=(m+500)+1 by omega];exact iM (e1 m)
 |t::ts,ds,acc,h,fr,lo,hI,hds,hl,hc,hS,hK,hB,c1,c2=>by
  simp only[bP,mO,bI]at hl hK;obtain⟨b1,b2,b3⟩:=hB t bZ;obtain⟨N0,g0,p1,p2⟩:=am3 hC hm t hS (by omega) b1 b2 b3;have hcg:getCells g0 kY=some (fl (ds++(t::ts).map yP)):=by simp only[getCells,p2.f kY c2 c1];exact hc
  have htk:takeN 11 (skip (ds.length*11) (fl (ds++(t::ts).map yP)))=some (yP t).cells:=by
   rw[Ju ds _ hds];rfl
  have hsp:=Dv (s:=11) (v:=yP t) (w:=thR res acc.length t) rfl rfl ds (ts.map yP) hds;have e1:=(Zk t.nS (AA res (acc.length+(hp t).length+t.env.length) t.st)).o;have e2:=(Zk t.nK (AL res (acc.length+(hp t).length+t.env.length+(wQ t.st).length) t.ko)).o;have e3:=(SN t.nE (MR res (acc.length+(hp t).length) t.env)).o;obtain⟨mP,lo1,f1,f2⟩:=akr (mm:=mm) hI (by omega) hn hc htk (Qs t) (by simp only[bf,e1,e2,e3,KO,Ak,BO,aU]) p1 hcg hsp;have hno:=p2.no c2 c1;obtain⟨s1,s2⟩:=hC.mono g0 (g0.set kY (.cells (fl (ds++thR res acc.length t::ts.map yP)))) _ p2.s (aJ _) (λj hj=>eu _ (λe=>hno (by rw[e];exact hj)));have hn0:=p2.n;obtain⟨N,aB,lo2,g,r1,r2,r3,r4,r5,r6,r7,r8⟩:=Yj hC hm hn ts (ds++[thR res acc.length t]) (acc++G7 t) _ mP lo1 (by rw[bI];exact f2)
   (λv hv=>by
    rcases dH.1 hv with hv|hv
    .exact hds v hv
    .simp at hv;subst hv;rfl) (by simp;omega) (by rw[gG,fP];rfl) s1 (by rw[bI];omega) (λx hx=>hB x (bW _ hx)) (λhh=>hno (s2 _ hh)) (by rw[qp];omega)
  rw[qp]at r5 r6 r7;refine⟨N+N0+501,aB,lo2,g,λm=>?_,r2,?_,?_,by omega,λj j1 j2 j3=>?_,λj hj=>?_,r8⟩
  .have hk:=f1 (N+m);rw[show N+N0+501+m=(N0+(N+m)+500)+1 by omega,mQ (m:=0) hk,show N0+(N+m)+500=N+(N0+m+500) by omega];exact r1 _
  .rw[r3,bI,fP];rfl
  .simp only[mO];rw[<- fP];exact r4
  .rw[r6 j (by omega) j2 (λhh=>p2.no j1 j3 (s2 j hh)),eu _ (Ne.symm j2)];exact p2.f j j1 j3
  .rcases r7 j hj with hh|hh
   .exact p2.o j (s2 j hh)
   .exact .inr (by omega)
end
section
variable {mm:eF}{h h1 h2 h3 g:H}{lo1:Nat}{nk nn:Nat->Int}{nm:Nat->List Nat}{nl:Nat->Bool}
def awh{w:V}{js:List Nat}(hi:IS h lo1 w js)(hl:js.length<=1000):∃u k,zU 1000 w h u k/\(KR u js/\(u=.aj<->w=.aj))/\aO u=true/\k.next=h.next/\∀j,¬dw w j->k.get j=h.get j:=by
 cases hi with
 |nil=>exact⟨.aj,h,zU.flat rfl _ _,⟨.inl ⟨rfl,rfl⟩,Iff.rfl⟩,rfl,rfl,λ_ _=>rfl⟩
 |emp=>exact⟨.list [] true,h,zU.flat rfl _ _,⟨.inr ⟨true,rfl⟩,Iff.rfl⟩,rfl,rfl,λ_ _=>rfl⟩
 |own hid hl2 hg hne =>
  rename_i id;have hc:chunk 1 js.length (js.map jn)=some (js.map jn):=OG js;have hz:=zU.hsl (B:=0) hg hc (FC.flat (h:=h.del id) (FV js));refine⟨_,_,hz.mono (by simp;omega),⟨.inr ⟨_,rfl⟩,(by constructor<;>intro hh<;>cases hh)⟩,FV js,rfl,λj hj=>kE (λe=>hj (by subst e;exact⟨_,_,_,_,rfl⟩))⟩
def afg{J:Nat->List Nat}(hJ:∀q,(J q).length<=1000):∀(o:List Nat) (ks:List V) (h:H),ks.length=o.length ->
  (∀(j:Nat) w q,ks[j]?=some w->o[j]?=some q->IS h lo1 w (J q))->(∀(j k:Nat) w u id,ks[j]?=some w->ks[k]?=some u->dw w id->dw u id->j=k)->(∀(j:Nat) w q,ks[j]?=some w->o[j]?=some q->(w=.aj<->nl q=true)) ->
  ∃us k,FC 1010 (uY nk nn nm o ks) h (uY nk nn nm o us) k/\us.length=o.length/\(∀(j:Nat) w q,us[j]?=some w->o[j]?=some q->KN (nl q) w (J q)/\aO w=true)/\k.next=h.next/\∀j,¬Kid ks j->k.get j=h.get j
 |[],ks,h,hl,hI,hs,hnl=>by
  have:ks=[]:=Bc.1 hl;subst this;exact⟨[],h,FC.flat rfl,rfl,λj w q hw=>by simp at hw,rfl,λ_ _=>rfl⟩
 |q::o,[],h,hl,hI,hs,hnl=>by simp at hl
 |q::o,w::ks,h,hl,hI,hs,hnl=>by
  obtain⟨u,k1,f1,f2,f3,f4,f5⟩:=awh (hI 0 w q rfl rfl) (hJ q);obtain⟨us,k,g1,g2,g3,g4,g5⟩:=afg hJ o ks k1 (by simpa using hl) (λj w2 q2 hw hq=>CX (hI (j+1) w2 q2 (by simpa using hw) (by simpa using hq)) (by omega) (λid hid=>f5 id (λhh=>by
   have:=hs 0 (j+1) w w2 id rfl (by simpa using hw) hh hid;omega))) (λj k w u id hw hu h1 h2=>by have:=hs (j+1) (k+1) w u id (by simpa using hw) (by simpa using hu) h1 h2;omega) (λj w q hw hq=>hnl (j+1) w q (by simpa using hw) (by simpa using hq))
  refine⟨u::us,k,?_,by simp[g2],λj w2 q2 hw hq=>?_,by omega,λj hj=>?_⟩
  .have hz:FC 1000 [.int .i64 (nk q),.int .i64 (nn q),.str (nm q),w] h [.int .i64 (nk q),.int .i64 (nn q),.str (nm q),u] k1:=.cons (zU.flat rfl _ _) (.cons (zU.flat rfl _ _) (.cons (zU.flat rfl _ _) (.cons f1 (FC.flat rfl))));exact .cons ((zU.agg hz).mono (by simp)) g1
  .cases j with
   |zero =>
    simp at hw hq;subst hw hq;exact⟨⟨f2.1,f2.2.trans (hnl 0 w q rfl rfl)⟩,f3⟩
   |succ j=>exact g3 j w2 q2 (by simpa using hw) (by simpa using hq)
  .rw[g5 j (λ⟨a,b,c,d⟩=>hj ⟨a+1,b,by simpa using c,d⟩),f5 j (λhh=>hj ⟨0,w,rfl,hh⟩)]
def Kw(res:Nat->Nat->Nat):∀k c,aW (inds res c k)=true
 |0,c=>rfl
 |k+1,c=>by simp only[inds,aW,Kw res k,Kv,aO,jn,aU]
end
section
variable {mm:eF}{h h1 h2 h3 g:H}{rid mb nb tb yU D n i L tid most x TP lo1 K p j kY:Nat}{fr:List V}{lo:Lo}{v v2 kv w w0 w1 w2 w3 w4 w5 w6 w7 w8:V}{ws ns xs cs cs2 rest pre:List V}{ver:Int}{res:Nat->Nat->Nat}{S:H->List Nat->Prop}{ow:H->Nat->Prop}{nk nn:Nat->Int}{nm:Nat->List Nat}{nl:Nat->Bool}
def yY{c c2 L:aN}{a b d id N0 N1:Nat}{aB AX:List V}{lo2 lo3:Lo}{X:Out}{vf:bF}
  (e1:∀m,runM mm Tab.fns (N0+m+a) (.code c) fr lo h=jC (runM mm Tab.fns (N0+m+b)) c2 (iw id (runM mm Tab.fns (N0+m+d) (.code (.loop L)) aB lo2 h2)))
  (e2:∀m,runM mm Tab.fns (N1+m) (.code (.loop L)) aB lo2 h2=.jump (.exit id) AX lo3 h3)
  (e3:∃N,∀m,wC vf (runM mm Tab.fns (N+m) (.code c2) AX lo3 h3)=X):∃N,∀m,wC vf (runM mm Tab.fns (N+m) (.code c) fr lo h)=X:=by
 obtain⟨N,e3⟩:=e3;refine⟨N0+N1+N+a,λm=>?_⟩;rw[show N0+N1+N+a+m=N0+(N1+N+m)+a by omega,e1,show N0+(N1+N+m)+d=N1+(N0+N+m+d) by omega,e2,iO,jP,cond_true,iR,show N0+(N1+N+m)+b=N+(N0+N1+m+b) by omega];exact e3 _
def ap7(hC:U0 mm (Ea nb tb mb) K res S ow)(hm:PlM mm){ts:List AV}{acc:List Nat}{o:List Nat}{ks:List V}{J:Nat->List Nat}(hn:ts.length=n)(hn2:n<=100000)
  (hI:CG fr lo nb tb mb [w0,w1,v,jn most,.list [] true,.int .i64 ver,w6,.hsl kY 0 n none 11,w8] kY n 0) (hc:getCells h kY=some (fl (ts.map yP))) (hS:S h acc) (hK:acc.length+(mO ts).length<=K) (hB:∀t∈ts,ThB t) (c1:¬ow h kY) (c2:kY<h.next)
  (hA:AS 4 h TP v (pre++uY nk nn nm o ks)) (hpre:∀v∈pre,El 4 v) (hpf:aW pre=true) (hpl:pre.length<=100000) (hko:ks.length=o.length) (ho:o≠[]) (hol:o.length<=100000) (hvo:∀j,dw v j->¬ow h j/\j≠kY)
  (hJ:∀q,(J q).length<=1000) (hki:∀(j:Nat) w q,ks[j]?=some w->o[j]?=some q->IS h lo1 w (J q)) (hsep:∀(j k:Nat) w u id,ks[j]?=some w->ks[k]?=some u->dw w id->dw u id->j=k) (hkk:∀id,Kid ks id->¬ow h id/\id≠kY/\id<h.next/\¬dw v id) (hnl:∀(j:Nat) w q,ks[j]?=some w->o[j]?=some q->(w=.aj<->nl q=true))
  (f0:aO w0=true) (f1:aO w1=true) (f6:aO w6=true) (f8:aO w8=true) (hok:bf [w0,w1,w6,w8]=true) :
  ∃us g,us.length=o.length/\(∀(j:Nat) w q,us[j]?=some w->o[j]?=some q->KN (nl q) w (J q)/\aO w=true)/\∃N1 aB lo2 h3,(∀m,runM mm Tab.fns (N1+m) (.code (.loop Tab.coG)) fr lo h=.jump (.exit 12) aB lo2 h3) /\
   ∀m,wC (Tab.Rn) (runM mm Tab.fns (100+m) (.code Tab.agA) aB lo2 h3)=.val (.tuple [.agg [w0,w1,.list (pre++uY nk nn nm o us) false,jn most,.list [] true,.int .i64 ver,w6,.list (Dx res acc.length ts) false,w8],.bool true]) g:=by
 obtain⟨N,aB,lo2,g6,r1,r2,r3,r4,r5,r6,r7,r8⟩:=Yj hC hm (by omega) ts [] acc h fr lo hI (λv hv=>by simp at hv) (by simpa using hn) hc hS hK hB c1 c2;rw[je]at r3;have hne:pre++uY nk nn nm o ks≠[]:=by
  intro e;have:=congrArg List.length e;rw[bI,wZ _ _ _ _ _ hko]at this;have h2:=uN.2 ho;rw[jS]at this;omega
 rcases hA with⟨hh,_⟩|⟨nid,rfl,a1,a2,a3⟩
 .exact absurd hh hne
 obtain⟨d1,d2⟩:=hvo nid ⟨_,_,_,_,rfl⟩;have hg6:getCells g6 nid=some (fl (pre++uY nk nn nm o ks)):=by simp only[getCells,r6 nid a3 d2 d1];exact a1
 have hkd:∀id,Kid ks id->(g6.del nid).get id=h.get id:=λid hid=>by
  obtain⟨z1,z2,z3,z4⟩:=hkk id hid;rw[kE (λe=>z4 ⟨_,_,_,_,by rw[e]⟩),r6 id z3 z2 z1]
 obtain⟨us,k1,q1,q2,q3,q4,q5⟩:=afg (nk:=nk) (nn:=nn) (nm:=nm) (lo1:=lo1) hJ o ks (g6.del nid) hko (λj w q hw hq=>CX (hki j w q hw hq) (by rw[xg];omega) (λid hid=>hkd id ⟨j,w,hw,hid⟩)) hsep hnl;have hel:∀v∈pre++uY nk nn nm o ks,El 4 v:=λv hv=>by
  rcases dH.1 hv with hv|hv
  .exact hpre v hv
  .exact adg o ks v hv
 have hz1:=zU.hsl (B:=1010) hg6 (Ej hel) (FC.append (FC.flat (h:=g6.del nid) hpf) q1);have hck:getCells k1 kY=some (fl (Dx res acc.length ts)):=by
  have:k1.get kY=(g6.del nid).get kY:=q5 kY (λhh=>(hkk kY hh).2.1 rfl);simp only[getCells,this,kE (λe:nid=kY=>d2 e)];exact r3
 obtain⟨t1,t2⟩:=XE (res:=res) ts acc.length;have hz2:=zU.hsl (B:=0) hck (Ej t1) (FC.flat (h:=k1.del kY) t2);rw[aa2,hn]at hz2;have hlen:(pre++uY nk nn nm o ks).length<=200000:=by rw[bI,wZ _ _ _ _ _ hko];omega
 have hz:FC 300000 [w0,w1,.hsl nid 0 (pre++uY nk nn nm o ks).length none 4,jn most,.list [] true,.int .i64 ver,w6,.hsl kY 0 n none 11,w8] g6 [w0,w1,.list (pre++uY nk nn nm o us) false,jn most,.list [] true,.int .i64 ver,w6,.list (Dx res acc.length ts) false,w8] (k1.del kY) :=
  .cons (zU.flat f0 _ _) (.cons (zU.flat f1 _ _) (.cons (hz1.mono (by omega)) (.cons (zU.flat rfl _ _) (.cons (zU.flat rfl _ _) (.cons (zU.flat rfl _ _) (.cons (zU.flat f6 _ _) (.cons (hz2.mono (by omega)) (.cons (zU.flat f8 _ _) (FC.flat rfl)))))))))
 have hzt:FC 300009 [.agg [w0,w1,.hsl nid 0 (pre++uY nk nn nm o ks).length none 4,jn most,.list [] true,.int .i64 ver,w6,.hsl kY 0 n none 11,w8],.bool true] g6 _ _:=.cons (zU.agg hz) (.cons (zU.flat rfl _ _) (FC.flat rfl));have hfz:=(zU.tuple hzt).qo (by simp);simp only[bf,ah,cZ]at hok;obtain⟨o0,o1,o6,o8⟩:=hok;refine⟨us,k1.del kY,q2,q3,N,aB,lo2,g6,r1,λm=>?_⟩;rw[show 100+m=m+100 by omega];exact avn (r:=[]) r2 rfl (by simp only[bf,o0,o1,o6,o8,KO,Ak,cZ,Bool.true_and];rfl) hfz m
end
section
variable {mm:eF}{h h1 h2 h3 g:H}{rid mb nb tb yU D n i L tid most x TP lo1 K p j kY:Nat}{fr:List V}{lo:Lo}{v v2 kv w w0 w1 w2 w3 w4 w5 w6 w7 w8:V}{ws ns xs cs cs2 rest pre:List V}{ver:Int}{nk nn:Nat->Int}{nm:Nat->List Nat}{nl:Nat->Bool}
structure auY (mm:eF):Prop where
 pl:PlM mm
 c1:mm 77=none
 c2:mm 80=none
 co:mm 28=none
 ro:mm 76=none
 mv:mm 81=none
 ow:mm 191=none
 ct:mm 82=none
 m1:mm 287=none
 m2:mm 190=none
 gc:mm 79=none
def UK(tos:List Nat)(D:Nat):Nat->Nat->Nat:=λc _=>(tos[c]?).getD 0+D
def akz(hm:auY mm){ts:List AV}{tos o:List Nat}{ks:List V}{J:Nat->List Nat}{e7:Bool}(hts:ts≠[])(htl:ts.length<=1000)(hB:∀t∈ts,ThB t)
  (hI:CC fr lo nb tb mb [w0,w1,w2,w3,w4,.int .i64 ver,w6,.list (ts.map yP) e7,w8] [.hsl tid 0 o.length none 4,jn most] .aj D 0) (hS:TkS nb tb mb yU D tos h [])
  (n1:nb≠tb) (n2:nb≠mb) (n3:nb≠yU) (hl:tos.length=D+(mO ts).length) (hl2:tos.length<=1000000) (hx:∀x∈tos,x+D<=1000000000) (hD:D<=1000)
  (ht:getCells h tid=some (fl (uY nk nn nm o ks))) (htn:tid<h.next) (hto:¬TkO nb tb mb yU h tid) (hko:ks.length=o.length) (ho:o≠[]) (hol:o.length<=100000)
  (hJ:∀q,(J q).length<=1000) (hJb:∀q,∀p∈J q,p<=100000) (hki:∀(j:Nat) w q,ks[j]?=some w->o[j]?=some q->IS h lo1 w (J q)) (hsep:∀(j k:Nat) w u id,ks[j]?=some w->ks[k]?=some u->dw w id->dw u id->j=k) (hkk:∀id,Kid ks id->¬TkO nb tb mb yU h id/\id<h.next/\id≠tid) (hnl:∀(j:Nat) w q,ks[j]?=some w->o[j]?=some q->(w=.aj<->nl q=true))
  (hc4:NoC w4) (f0:aO w0=true) (f1:aO w1=true) (f6:aO w6=true) (f8:aO w8=true) (hok:bf [w0,w1,w6,w8]=true) :
  ∃us g,us.length=o.length/\(∀(j:Nat) w q,us[j]?=some w->o[j]?=some q->KN (nl q) w ((J q).map (· + D))/\aO w=true)/\∃N1 aB lo2 h3,(∀m,runM mm Tab.fns (N1+m) (.code (.loop Tab.coC)) fr lo h=.jump (.exit 4) aB lo2 h3) /\
   ∃N,∀m,wC (Tab.Rn) (runM mm Tab.fns (N+m) (.code Tab.agz) aB lo2 h3)=.val (.tuple [.agg [w0,w1,.list (inds (UK tos D) 0 D++uY nk nn nm o us) false,jn most,.list [] true,.int .i64 ver,w6,.list (Dx (UK tos D) D ts) false,w8],.bool true]) g:=by
 have hC:U0 mm (Ea nb tb mb) tos.length (UK tos D) (TkS nb tb mb yU D tos) (TkO nb tb mb yU):=aob hm.c2 n1 n2 n3 hl2 hx;have hown:∀j,TkO nb tb mb yU h j->j<h.next:=λj hj=>hC.lt h [] j hS hj;obtain⟨N1,aB,v4,g4,r1,r2,r3,r4,r5,r6,r7,r8,r9⟩:=Yg (TP:=h.next) hC (by omega) D 0 [] h fr .aj [] rfl hI hS (by simp;omega) (.inl ⟨rfl,rfl⟩) (λv hv=>by simp at hv) (by simp;omega) (aJ _) (λj hj=>by obtain⟨_,_,_,_,hh⟩:=hj;cases hh);have nt:∀j,¬dw V.aj j:=λj hj=>by obtain⟨_,_,_,_,hh⟩:=hj;cases hh
 have aon:∀j,dw v4 j->h.next<=j:=λj hj=>(r8 j hj).resolve_left (nt j);have r6':∀j,j<h.next->¬TkO nb tb mb yU h j->g4.get j=h.get j:=λj j1 j2=>r6 j j1 j2 (nt j);rw[je]at r3 r4;obtain⟨fr5,e1,e2⟩:=ap0 (mm:=mm) (h:=g4) r2;have hS4:=r4;obtain⟨b1,b2,b3,b4,_,_,c3,_⟩:=r4;obtain⟨N2,fr6,lo6,v5,g5,s1,s2,s3,s4,s5,s6,s7,s8⟩:=Yh (mm:=mm) (hz:=h) (lo1:=lo1) (nk:=nk) (nn:=nn) (nm:=nm) (J:=J) (tid:=tid) (TP:=h.next) (D:=D) (pre:=inds (UK tos D) 0 D) (by omega) hko hol hJ (λq p hp=>by have:=hJb q p hp;omega) hsep
  (λhh=>(hkk tid hh).2.2 rfl) (λhh=>(hkk mb hh).1 (.inr (.inr (.inl rfl)))) (VU _ _ _) (by rw[zB];omega) (aJ _) o.length 0 g4 fr5 lo v4 rfl r5 e2 (by simpa using r3) (by simp only[getCells,r6' tid htn hto];exact ht) (by omega) c3 b3
  (λj w q hw hq=>by
   rw[if_neg (by omega)];exact CX (hki j w q hw hq) r5 (λid hid=>by
    obtain⟨z1,z2,_⟩:=hkk id ⟨j,w,hw,hid⟩;exact r6' id z2 z1))
  (λj hj=>⟨λhh=>by have:=(hkk j hh).2.1;have:=aon j hj;omega,by have:=aon j hj;omega,by have:=aon j hj;have:=hown mb (.inr (.inr (.inl rfl)));omega⟩)
 have aAE:∀j,dw v5 j->h.next<=j:=λj hj=>by
  rcases s7 j hj with hh|hh
  .exact aon j hh
  .omega
 have hS5:TkS nb tb mb yU D tos g5 (List.replicate D 0):=(hC.mono g4 g5 _ hS4 s4 (λj hj=>by
  have h1:=hown j hj;exact s6 j (by omega) (λhh=>(hkk j hh).1 hj) (λhh=>by have:=aon j hh;omega))).1
 obtain⟨fr7,u1,u2⟩:=ap1 (mm:=mm) (h:=g5) s2 hc4;obtain⟨fr8,u3,u4⟩:=akp (mm:=mm) (h:=g5) u2;obtain⟨hm5,ehm⟩:∃x,(((g5.new (.cells [])).set g5.next (.cells [])).del g5.next)=x:=⟨_,rfl⟩;obtain⟨hn5,ehn⟩:∃x,hm5.new (.cells (fl (ts.map yP)))=x:=⟨_,rfl⟩;have nm5:hm5.next=g5.next+1:=by rw[<- ehm];rfl
 have nn5:hn5.next=g5.next+2:=by rw[<- ehn,iU,nm5]
 have gn5:∀j,j<g5.next->hn5.get j=g5.get j:=λj hj=>by
  rw[<- ehn,iq _ (by omega),<- ehm,kE (by omega),eu _ (by omega),iq _ (by omega)]
 have hlen:(ts.map yP).length=ts.length:=by simp
 obtain⟨fr9,lo9,u5,u6⟩:=ap2 (mm:=mm) (e:=e7) u4 hm.ow hm.mv hm.ct hc4 s3.vl (λv hv=>by obtain⟨t,_,rfl⟩:=kC.1 hv;rfl) (Md ts) (by rw[hlen];omega) (by simpa using hts) ehm ehn;rw[hlen]at u6;have azc:∀j,TkO nb tb mb yU h j->j<g5.next:=λj hj=>by have:=hown j hj;omega
 have hS6:TkS nb tb mb yU D tos hn5 (List.replicate D 0):=(hC.mono g5 hn5 _ hS5 (by omega) (λj hj=>gn5 j (azc j hj))).1;have YX:getCells hn5 hm5.next=some (fl (ts.map yP)):=by rw[<- ehn];exact fO
 have acd:∀id,Kid ks id->id<g5.next:=λid hid=>by have:=(hkk id hid).2.1;omega
 obtain⟨us,g,q1,q2,N6,aFL,aGw,h10,q3,q4⟩:=ap7 (mm:=mm) (h:=hn5) (acc:=List.replicate D 0) (J:=λq=>(J q).map (· + D)) (lo1:=lo1) (nk:=nk) (nn:=nn) (nm:=nm) hC hm.pl rfl (by omega) u6 YX hS6 (by rw[List.length_replicate];omega) hB
  (λhh=>by have:=azc _ hh;omega) (by omega) (s3.mono (by omega) (λj hj=>gn5 j (s3.lt hj).2)) (VU _ _ _) (Kw _ _ _) (by rw[zB];omega) hko ho hol
  (λj hj=>⟨λhh=>by have:=hown j hh;have:=aAE j hj;omega,by have:=(s3.lt hj).2;omega⟩) (λq=>by simpa using hJ q) (λj w q hw hq=>CX (s5 j w q hw hq) (by omega) (λid hid=>gn5 id (acd id ⟨j,w,hw,hid⟩))) hsep
  (λid hid=>⟨(hkk id hid).1,by have:=acd id hid;omega,by have:=acd id hid;omega,λhh=>by have:=(hkk id hid).2.1;have:=aAE id hh;omega⟩) hnl f0 f1 f6 f8 hok
 rw[List.length_replicate]at q4;refine⟨us,g,q1,q2,N1,aB,lo,g4,r1,?_⟩;refine yY (N0:=0) (λm=>by rw[iF];exact e1 m) s1 ?_;refine yY (N0:=0) (N1:=501) (λm=>by rw[iF];exact u1 m) (λm=>by rw[show 501+m=(m+500)+1 by omega];exact iM (u3 m)) ?_;exact yY (N0:=0) (λm=>by rw[iF];exact u5 m) q3 ⟨100,q4⟩
end
section
variable {mm:eF}{h:H}{D most:Nat}{w0 w4 w6 w8 a2:V}{ver:Int}{nk nn:Nat->Int}{nm:Nat->List Nat}{R:Nat->Prop}{T:Nat->Nat}{js:Nat->List Nat}{nl:Nat->Bool}
def ayO{g h:H}{j:Nat}(e:g.get j=h.get j):getCells g j=getCells h j:=by simp only[getCells,e]
def ap9(hm:auY mm){ts:List AV}{ds:List V}{e e7:Bool}(hds:ds.length=D)(hts:ts≠[])(htl:ts.length<=1000)(hB:∀t∈ts,ThB t)(hK:(mO ts).length<=800000)(hD:D<=1000)
  (hg:GcW mm [a2,jn most] R T nk nn nm js nl) (hjs:∀q,(js q).length<=1000) (Kr:ay mm 189 [.agg [a2,jn most]]=some (.bool true)) (hR:∀p∈List.range D++mO ts,R p) (hT:∀p,R p->T p<100000) (hne:List.range D++mO ts≠[])
  (Ez:most<=100000) (hM:∀o:List Nat,o.Nodup->(∀q∈o,∃p,R p/\q=T p)->o.length+D<=most)
  (hc4:NoC w4) (h2:Vl a2) (f0:aO w0=true) (f1:aW ds=true) (f6:aO w6=true) (f8:aO w8=true) (o0:qW w0=true) (o6:qW w6=true) (o8:qW w8=true) :
  ∃o us N g,(∀m,runM mm Tab.fns (N+m) (.call 28 [.agg [w0,.list ds e,a2,jn most,w4,.int .i64 ver,w6,.list (ts.map yP) e7,w8]]) [] [] h =
    .val (.tuple [.agg [w0,.list ds e,.list (inds (UK ((List.range D++mO ts).map λp=>o.idxOf (T p)) D) 0 D++uY nk nn nm o us) false,jn most,.list [] true,.int .i64 ver,w6,.list (Dx (UK ((List.range D++mO ts).map λp=>o.idxOf (T p)) D) D ts) false,w8],.bool true]) g) /\
   us.length=o.length/\(∀(j:Nat) w q,us[j]?=some w->o[j]?=some q->KN (nl q) w ((js q).map λp=>o.idxOf (T p)+D)/\aO w=true)/\o.Nodup/\(∀q∈o,∃p,R p/\q=T p)/\(∀p∈List.range D++mO ts,T p∈o)/\∀q∈o,∀p∈js q,T p∈o:=by
 obtain⟨roots,acf⟩:∃r,List.range D++mO ts=r:=⟨_,rfl⟩;rw[acf]at hR hne|-;have hrl:roots.length=D+(mO ts).length:=by rw[<- acf];simp
 have o1:qW (.list ds e)=true:=rfl;have oa:=h2.o;have o4:=hc4.vl.o;have zX:bf [w0,.list ds e,a2,jn most,w4,.int .i64 ver,w6,.list (ts.map yP) e7,w8]=true:=by
  simp only[bf,o0,o1,oa,o4,o6,o8,KO,Ak,cZ,Bool.true_and];rfl
 obtain⟨aB,lo2,e1,e2⟩:=akw (mm:=mm) (h:=h) (D:=D) (fr:=pad 158 [.agg [w0,.list ds e,a2,jn most,w4,.int .i64 ver,w6,.list (ts.map yP) e7,w8]]) rfl rfl zX hds;obtain⟨H1,eH1⟩:∃x,(((h.new (.cells [.aj])).new (.cells [jn 0])).set (h.next+1) (.cells [jn D]))=x:=⟨_,rfl⟩;rw[eH1]at e1;have nH1:H1.next=h.next+2:=by rw[<- eH1];rfl
 have rH1:getCells H1 h.next=some [.aj]:=by rw[<- eH1,gy (by omega),oD (by rw[iU];omega)];exact fO
 have mH1:getCells H1 (h.next+1)=some [jn D]:=by rw[<- eH1];exact gG
 have hS1:NtS h.next [] H1 (List.range 0):=⟨by omega,.aj,rH1,.inl ⟨rfl,rfl⟩⟩;have no1:¬NtO h.next H1 (h.next+1):=λhh=>by
  rcases hh with hh|⟨sl,hh,ht⟩
  .omega
  .rw[rH1]at hh;cases hh;obtain⟨_,_,_,_,hh⟩:=ht;cases hh
 obtain⟨N1,AX,g1,r1,r2,r3⟩:=Ye (mm:=mm) hD D 0 H1 aB rfl e2 hS1;obtain⟨p1,sl,p2,p3⟩:=r3.s;have av5:Vl sl/\yH sl=true/\nT sl sl=true:=by
  rcases p3 with⟨_,rfl⟩|⟨id,rfl,_⟩
  .exact⟨⟨rfl,rfl,rfl,rfl⟩,rfl,rfl⟩
  .exact⟨⟨rfl,rfl,rfl,rfl⟩,rfl,aeE _ _ _ _⟩
 obtain⟨H2,eH2⟩:∃x,g1.set h.next (.cells [sl])=x:=⟨_,rfl⟩;have nH2:H2.next=g1.next:=by rw[<- eH2];rfl
 have rH2:getCells H2 h.next=some [sl]:=by rw[<- eH2];exact gG
 have gH2:∀j,h.next≠j->H2.get j=g1.get j:=λj hj=>by rw[<- eH2];exact eu _ hj
 have hS2:NtS h.next (List.range D) H2 []:=by
  refine NtS.split (base:=[]) (a:=List.range D) (b:=[]) ?_;rw[iY];refine⟨by omega,sl,rH2,?_⟩;rcases p3 with p3|⟨id,q1,q2,q3,q4⟩
  .exact .inl p3
  .refine .inr ⟨id,q1,?_,by omega,q4⟩;simp only[getCells,gH2 id (Ne.symm q4)];exact q2
 have aDI:=r3.no (by omega) no1;have mH2:getCells H2 (h.next+1)=some [jn D]:=(ayO ((gH2 (h.next+1) (by omega)).trans (r3.f (h.next+1) (by omega) no1))).trans mH1;have no2:¬NtO h.next H2 (h.next+1):=λhh=>by
  rcases hh with hh|⟨sl2,hh,ht⟩
  .omega
  .rw[rH2]at hh;cases hh;exact aDI (.inr ⟨sl,p2,ht⟩)
 obtain⟨J9,i1,i2⟩:=apY (mm:=mm) (h:=g1) (h2:=H2) (n:=ts.length) (w7:=.list (ts.map yP) e7) r2 hm.ro hc4 ⟨rfl,rfl,rfl,rfl⟩ ⟨rfl,rfl,rfl,rfl⟩ p2 av5.1 av5.2.1 (by rw[qQ];simp) eH2 (by rw[qQ];simp) av5.2.2;obtain⟨N2,fr5,lo5,g2,k1,k2,k3⟩:=Yf hm.pl hm.c1 (base:=List.range D) (by simpa using hD) (by omega) ts 0 [] H2 J9 lo2 i2 (by simp) rfl hB (by simp;omega) hS2;have n23:=k3.n;obtain⟨s1,sl2,s2,s3⟩:=k3.s;rw[je,acf]at s3;rcases s3 with⟨s3,_⟩|⟨jO,rfl,s4,s5,s6⟩
 .exact absurd s3 hne
 have mg2:getCells g2 (h.next+1)=some [jn D]:=by simp only[getCells,k3.f (h.next+1) (by have:=r3.n;omega) no2];exact mH2
 obtain⟨N3,g3,tid,pV,o,ks,t1,t2,t3,t4⟩:=avO (mm:=mm) (h:=g2) (v:=.hsl jO 0 roots.length none 1) hm.m1 hm.m2 hm.pl.i hm.gc hg hjs Kr (.inr (.inr ⟨jO,rfl,s4⟩)) (λj hj=>by obtain⟨_,_,_,_,hh⟩:=hj;cases hh;exact s5) (by omega) hne hR hT oa rfl rfl rfl;have hoM:=hM o t2.nd t2.R;have ho:o≠[]:=λhh=>by
  obtain⟨p,hp⟩:=List.exists_mem_of_ne_nil _ hne;have:=t2.roots p hp;rw[hh]at this;simp at this
 obtain⟨tos,acg⟩:∃x,(roots.map λp=>o.idxOf (T p))=x:=⟨_,rfl⟩;have aCB:tos.length=D+(mO ts).length:=by rw[<- acg,jo];exact hrl
 have hout:=t2.out;have azk:=t2.outT;have hkT:=t2.azH;rw[acg]at hout;have azt:tos≠[]:=by rw[<- acg];simpa using hne
 obtain⟨yU,rfl,z1,z2,z3⟩:∃yU,pV=.hsl yU 0 tos.length none 1/\g2.next<=yU/\yU<g3.next/\getCells g3 yU=some (tos.map jn):=by
  cases hout with
  |nil=>exact absurd rfl azt
  |emp=>exact absurd rfl azt
  |own hid hl2 hg2 hne2=>exact⟨_,rfl,hid,hl2,hg2⟩
 have mg3:getCells g3 (h.next+1)=some [jn D]:=by simp only[getCells,t4 (h.next+1) (by have:=r3.n;omega)];exact mg2
 obtain⟨H3,eH3⟩:∃x,((((g3.new (.cells [.aj])).set g3.next (.cells [.hsl yU 0 tos.length none 1])).new (.cells [jn 0])).set (g3.next+1) (.cells [jn 0]))=x:=⟨_,rfl⟩;have nH3:H3.next=g3.next+2:=by rw[<- eH3];rfl
 have gH3:∀j,j<g3.next->H3.get j=g3.get j:=λj hj=>by
  rw[<- eH3,eu _ (by omega),iq _ (by rw[qp,iU];omega),eu _ (by omega),iq _ (by omega)]
 have bH3:getCells H3 g3.next=some [.hsl yU 0 tos.length none 1]:=by
  rw[<- eH3,gy (by omega),oD (by rw[qp,iU];omega)];exact gG
 have aH3:getCells H3 (g3.next+1)=some [jn 0]:=by rw[<- eH3];exact gG
 obtain⟨fr6,lo6,u1,u2⟩:=apZ (mm:=mm) (h:=g2) (sl:=.hsl jO 0 roots.length none 1) (pV:=.hsl yU 0 tos.length none 1) (most:=most) (L:=o.length) k2 s2 ⟨rfl,rfl,rfl,rfl⟩ h2 t1 mg3 (by have:=r3.n;omega) ⟨rfl,rfl,rfl,rfl⟩ hoM (by omega) ⟨_,t2.cells⟩ t2.tlt eH3;have hlow:∀j,g2.next<=j->j<g3.next->j≠yU->¬TkO (g3.next+1) g3.next (h.next+1) yU H3 j:=λj j1 j2 j3 hh=>by
  have:=r3.n;rcases hh with hh|hh|hh|hh<;>omega
 have Y1:∀id,Kid ks id->g2.next<=id/\id<g3.next/\id≠yU/\id≠tid:=λid hid=>by
  obtain⟨j,w,hw,hid⟩:=hid;have hj:j<o.length:=by have:=(fB.1 hw).1;have:=t2.kl;omega
  have hh:=(t2.kids j w _ hw (bV hj)).1;obtain⟨x1,x2⟩:=hkT j w id hw hid;refine⟨?_,?_,λe=>x2 ⟨_,_,_,_,by rw[e]⟩,x1⟩
  .obtain⟨_,_,_,_,rfl⟩:=hid;generalize (js _).map _=Q at hh;cases hh;assumption
  .obtain⟨_,_,_,_,rfl⟩:=hid;generalize (js _).map _=Q at hh;cases hh;assumption
 have hidx:∀p,o.idxOf (T p)<=o.length:=λp=>List.idxOf_le_length;obtain⟨us,g,x1,x2,N4,fr7,lo7,h7,x3,x4⟩:=akz (mm:=mm) (h:=H3) (tos:=tos) (o:=o) (ks:=ks) (J:=λq=>(js q).map λp=>o.idxOf (T p)) (lo1:=g2.next) (nk:=nk) (nn:=nn) (nm:=nm) hm hts htl hB u2
  ⟨by omega,by omega,by have:=r3.n;omega,by omega,aH3,bH3,by simp only[getCells,gH3 (h.next+1) (by have:=r3.n;omega)];exact mg3,by simp only[getCells,gH3 yU z2];exact z3⟩
  (by omega) (by have:=r3.n;omega) (by omega) aCB (by omega) (λx hx=>by rw[<- acg]at hx;obtain⟨p,_,rfl⟩:=kC.1 hx;have:=hidx p;omega) hD
  (by simp only[getCells,gH3 tid t2.tlt];exact t2.cells) (by have:=t2.tlt;omega) (hlow tid t2.tlo t2.tlt (λe=>azk ⟨_,_,_,_,by rw[e]⟩)) t2.kl ho (by omega)
  (λq=>by simpa using hjs q) (λq p hp=>by obtain⟨p2,_,rfl⟩:=kC.1 hp;have:=hidx p2;omega)
  (λj w q hw hq=>CX (t2.kids j w q hw hq).1 (by omega) (λid hid=>gH3 id (Y1 id ⟨j,w,hw,hid⟩).2.1)) t2.sep
  (λid hid=>by obtain⟨y1,y2,y3,y4⟩:=Y1 id hid;exact⟨hlow id y1 y2 y3,by omega,y4⟩) (λj w q hw hq=>(t2.kids j w q hw hq).2.2) hc4 f0 f1 f6 f8 (by simp only[bf,o0,o1,o6,o8,aU])
 have hall:∃N,∀m,wC (Tab.Rn) (runM mm Tab.fns (N+m) (.code (Tab.Rn).body) (pad 158 [.agg [w0,.list ds e,a2,jn most,w4,.int .i64 ver,w6,.list (ts.map yP) e7,w8]]) [] h)=.val (.tuple [.agg [w0,.list ds e,.list (inds (UK tos D) 0 D++uY nk nn nm o us) false,jn most,.list [] true,.int .i64 ver,w6,.list (Dx (UK tos D) D ts) false,w8],.bool true]) g:=by
  refine yY (N0:=0) (λm=>by rw[iF];exact e1 m) r1 ?_;refine yY (N0:=0) (λm=>by rw[iF];exact i1 m) k1 ?_;exact yY (N0:=N3) u1 x3 x4
 obtain⟨N,hall⟩:=hall;have hb:=λN=>bn (mm:=mm) (n:=N) (f:=28) (a:=[.agg [w0,.list ds e,a2,jn most,w4,.int .i64 ver,w6,.list (ts.map yP) e7,w8]]) (fr:=[]) (lo:=[]) (h:=h) (by simp[ay,hm.co]) (show Tab.fns 28=some Tab.Rn from rfl) rfl;refine⟨o,us,N+1,g,λm=>?_,x1,λj w q hw hq=>?_,t2.nd,t2.R,t2.roots,λq hq=>?_⟩
 .rw[show N+1+m=(N+m)+1 by omega,hb,acg];exact hall m
 .have:=x2 j w q hw hq;rw[List.map_map]at this;exact this
 .obtain⟨j,hj,rfl⟩:=List.mem_iff_getElem.1 hq;have hjk:j<ks.length:=by have:=t2.kl;omega
  exact(t2.kids j _ _ (bV hjk) (bV hj)).2.1
end
end Go.Vx
section
open Go Go.RowKit
namespace Go.Vx.Tab
def ixC:aN:=s (r [bt 9 .lss 8 7]) (s (zx 9 0) (s (.block 1 (s (r [m 10 8,m 5 10]) (s (r [m 11 1,m 12 0,m 13 5,ia 14 4 12 13,la 15 4 14,.dyn (some 16) (t 11) [t 15]]) (z 16 (s (r [m 17 5,m 4 17]) .ret) .skip)))) (r [bi 18 .add 8 1,m 8 18])))
def aq7:(Tab.Rt).body=s (r [ci 4 0]) (s (s (r [m 6 0,ln 7 0 6,ci 8 0]) (bl 0 ixC)) (s (r [ci 4 (-1)]) .ret)):=rfl
end Go.Vx.Tab
namespace Go.Vx
variable {mm:eF}{h g:H}{b n i:Nat}{fr:List V}{lo:Lo}{v w a0 a1:V}{ns:List V}{e:Bool}
def apH{x0 x1 x2 x3:V}(h0:mm 284=none)(hb:getCells h b=some [a0,a1])(hl:lenOf h 0 a0=some n)(v0:Vl a0)(o:bf [x0,x1,x2,x3]=true)
  (hmay:ay mm 285 [.agg [x0,x1,x2,x3],jn n]=some (.bool true)) (N:Nat) :
  runM mm Tab.fns (N+100) (.app (.func (.func 284) [] [.bg b 0]) [.agg [x0,x1,x2,x3]]) [] [] h=.val (.bool false) h:=by
 have hmr:=λN fr lo h=>dJ (fns:=Tab.fns) (n:=N) (fr:=fr) (lo:=lo) (h:=h) hmay;simp only[bf,ah,cZ]at o;obtain⟨o0,o1,o2,o3⟩:=o;have k0:=v0.kl;obtain⟨f1,f2,f3,f4⟩:=v0;have hz:qo (.bool false) h=(.bool false,h):=by simp[qo,dF,kQ]
 unfold jn at *;simp -implicitDefEqProofs only[WW];rw[bn (by simp[ay,h0]) (show Tab.fns 284=some Tab.af0 from rfl) rfl];simp -implicitDefEqProofs only[Tab.af0,WW,aS,aZ,aK,pad,aC.ev,aC.evs,fJ,bG,aF,dA,eP,takeN,skip,bK,Nat.beq,finish,resV,dI,LL9,Nat.beq,hmr,hb,hl,hz]
 done
structure II (fr:List V)(fv:V)(v:V)(n i:Nat):Prop where
 fl:fr.length=19
 s0:aA fr 0=v
 s1:aA fr 1=fv
 s6:aA fr 6=v
 s7:aA fr 7=jn n
 s8:aA fr 8=jn i
def aq9{x0 x1 x2 x3 fv:V}(hI:II fr fv (.list ns e) n i)(hi:i<n)(hn:n<=1000000)(hx:∃rest,skip i ns=.agg [x0,x1,x2,x3]::rest)(o:bf [x0,x1,x2,x3]=true)
  (hp:∀N,runM mm Tab.fns (N+100) (.app fv [.agg [x0,x1,x2,x3]]) [] [] h=.val (.bool false) h) :
  ∃aB,(∀N,runM mm Tab.fns (N+500) (.code Tab.ixC) fr lo h=.norm aB lo h)/\II aB fv (.list ns e) n (i+1):=by
 obtain⟨fl,s0,s1,s6,s7,s8⟩:=hI;obtain⟨rest,hx⟩:=hx;have hbl:Nat.ble (i+1) n=true:=dO (by omega);have hw:Nat.blt (i+1) 9223372036854775808=true:=nP (by omega);have hw2:Nat.ble i 9223372036854775806=true:=dO (by omega);simp only[bf,ah,cZ]at o;obtain⟨o0,o1,o2,o3⟩:=o;unfold jn at *;refine⟨?aB,?eq,?ai⟩
 case eq =>
  intro N;simp -implicitDefEqProofs only[Tab.ixC,WW,aS,aZ,aK,aC.ev,aC.evs,bG,aF,takeN,Nat.reduceAdd,Nat.beq,Nat.blt,Nat.ble,cO,dD,mV,eH,iK,eqK,OR.eU,LL9,Nat.reduceEqDiff,Nat.reduceLT,Nat.beq,fl,s0,s1,s7,s8,hbl,hw2,hx,hp];rfl
 case ai =>
  constructor<;>first|rfl|simp only[LL9,Nat.reduceEqDiff,Nat.reduceLT,fl,s0,s1,s6,s7,jn]
def aq8{fv:V}(hI:II fr fv v n n):∃aB,(∀N,runM mm Tab.fns (N+500) (.code Tab.ixC) fr lo h=.jump (.exit 0) aB lo h)/\II aB fv v n n:=by
 obtain⟨fl,s0,s1,s6,s7,s8⟩:=hI;have hb:Nat.ble (n+1) n=false:=tu (by omega);unfold jn at *;refine⟨?aB,?eq,?ai⟩
 case eq =>
  intro N;simp -implicitDefEqProofs only[Tab.ixC,WW,aS,aZ,aK,aC.ev,bG,Nat.blt,cO,dD,eH,eqK,OR.eU,LL9,Nat.reduceLT,fl,s7,s8,hb];rfl
 case ai =>
  constructor<;>first|rfl|simp only[LL9,Nat.reduceEqDiff,fl,s0,s1,s6,s7,s8,jn]
def ae1{fv:V}(hn:n<=1000000):∀(k i:Nat) (fr:List V),k+i=n->n=ns.length->II fr fv (.list ns e) n i ->
  (∀v∈ns,∃x0 x1 x2 x3,v=.agg [x0,x1,x2,x3]/\bf [x0,x1,x2,x3]=true/\∀N,runM mm Tab.fns (N+100) (.app fv [v]) [] [] h=.val (.bool false) h) ->
  ∃N aB,(∀m,runM mm Tab.fns (N+m) (.code (.loop Tab.ixC)) fr lo h=.jump (.exit 0) aB lo h)/\II aB fv (.list ns e) n n
 |0,i,fr,hk,hl,hI,hv=>by
  rw[iF]at hk;subst hk;obtain⟨aB,e1,e2⟩:=aq8 (mm:=mm) (h:=h) (lo:=lo) hI;refine⟨501,aB,λm=>?_,e2⟩;rw[show 501+m=(m+500)+1 by omega];exact iM (e1 m)
 |k+1,i,fr,hk,hl,hI,hv=>by
  have hi:i<ns.length:=by omega
  obtain⟨x0,x1,x2,x3,q1,q2,q3⟩:=hv ns[i] (ku hi);have hx:skip i ns=.agg [x0,x1,x2,x3]::ns.drop (i+1):=by rw[pX,uM hi,q1]
  rw[q1]at q3;obtain⟨mP,e1,e2⟩:=aq9 (mm:=mm) (h:=h) (lo:=lo) hI (by omega) hn ⟨_,hx⟩ q2 q3;obtain⟨N,aB,r1,r2⟩:=ae1 hn k (i+1) mP (by omega) hl e2 hv;refine⟨N+501,aB,λm=>?_,r2⟩;have hk:=e1 (N+m);rw[show N+501+m=(N+m+500)+1 by omega,mQ (m:=0) hk,show N+m+500=N+(m+500) by omega];exact r1 _
def awj{fv:V}(h0:mm 348=none)(hn:ns.length<=1000000)(hfv:Vl fv)
  (hv:∀v∈ns,∃x0 x1 x2 x3,v=.agg [x0,x1,x2,x3]/\bf [x0,x1,x2,x3]=true/\∀N,runM mm Tab.fns (N+100) (.app fv [v]) [] [] h=.val (.bool false) h) :
  ∃N,∀m,runM mm Tab.fns (N+m) (.call 348 [.list ns e,fv]) [] [] h=.val (.int .i64 (-1)) h:=by
 have hlen:=qQ h ns e;have kf:=hfv.kl;obtain⟨g1,g2,g3,g4⟩:=hfv;obtain⟨mP,e1,e2⟩:∃mP,(∀m,runM mm Tab.fns (m+100) (.code (Tab.Rt).body) (pad 19 [.list ns e,fv]) [] h=jC (runM mm Tab.fns (m+98)) (Tab.s (Tab.r [Tab.ci 4 (-1)]) .ret) (iw 0 (runM mm Tab.fns (m+96) (.code (.loop Tab.ixC)) mP [] h)))/\II mP fv (.list ns e) ns.length 0:=by
  refine⟨?mP,?eq,?ai⟩
  case eq =>
   intro m;rw[Tab.aq7];simp only[Tab.bl];rw[dR (m+99)];generalize aN.loop Tab.ixC=LL;simp -implicitDefEqProofs only[WW,dX,jX,jK,aZ,aK,pad,aC.ev,bG,hlen];rfl
  case ai =>
   constructor<;>first|rfl|simp only[LL9,Nat.reduceEqDiff,Nat.reduceLT,Nat.beq,jn]
 obtain⟨N1,aB,r1,r2⟩:=ae1 (mm:=mm) (h:=h) (lo:=[]) (fv:=fv) (e:=e) (n:=ns.length) hn ns.length 0 mP rfl rfl e2 hv;obtain⟨fl,s0,s1,s6,s7,s8⟩:=r2;have hb:=λN=>bn (mm:=mm) (n:=N) (f:=348) (a:=[.list ns e,fv]) (fr:=[]) (lo:=[]) (h:=h) (by simp[ay,h0]) (show Tab.fns 348=some Tab.Rt from rfl) rfl;have hnt:(Tab.Rt).nt=19:=rfl;refine⟨N1+300,λm=>?_⟩;rw[show N1+300+m=(N1+(m+199)+100)+1 by omega,hb,hnt,e1,show N1+(m+199)+96=N1+(m+295) by omega,r1,iO,show Nat.beq 0 0=true from rfl,cond_true,iR,show N1+(m+199)+98=(N1+m+197)+100 by omega];simp -implicitDefEqProofs only[Tab.Rt,WW,dX,jX,OC,aZ,aK,aC.ev,bG,aF,bK,finish,resV,dI,LL9,Nat.reduceLT,fl]
 done
end Go.Vx
end
namespace Go.Vx
section
variable {mm:eF}{h g:H}{b n i most:Nat}{fr:List V}{lo:Lo}{v w a0 a1:V}{ns:List V}{e:Bool}
def apO{fv:V}(h0:mm 348=none)(h1:mm 286=none)(hn:ns.length<=1000000)(hfv:Vl fv)
  (hv:∀v∈ns,∃x0 x1 x2 x3,v=.agg [x0,x1,x2,x3]/\bf [x0,x1,x2,x3]=true/\∀N,runM mm Tab.fns (N+100) (.app fv [v]) [] [] h=.val (.bool false) h) :
  ∃N,∀m,runM mm Tab.fns (N+m) (.call 286 [.list ns e,fv]) [] [] h=.val (.bool false) h:=by
 obtain⟨N0,hi⟩:=awj (e:=e) h0 hn hfv hv;have kf:=hfv.kl;obtain⟨g1,g2,g3,g4⟩:=hfv;refine⟨N0+101,λm=>?_⟩;rw[show N0+101+m=(N0+m+100)+1 by omega,bn (by simp[ay,h1]) (show Tab.fns 286=some Tab.af2 from rfl) rfl];have hp2:=λk=>(show runM mm Tab.fns (N0+m+k) (.call 348 [.list ns e,fv]) [] [] h=.val (.int .i64 (-1)) h by rw[gq];exact hi _);generalize N0+m=M at *;simp -implicitDefEqProofs only[Tab.af2,WW,aS,aZ,aK,pad,aC.ev,aC.evs,bG,aF,bK,finish,resV,dI,cO,dD,eqK,OR.eU,hp2,g1];rfl
def apT(h0:mm 348=none)(h1:mm 286=none)(h2:mm 284=none)(h3:mm 189=none)(hl:ns.length<=most)(hm:most<=5000)
  (hv:∀v∈ns,∃x0 x1 x2 x3,v=.agg [x0,x1,x2,x3]/\bf [x0,x1,x2,x3]=true/\ay mm 285 [v,jn ns.length]=some (.bool true)) :
  ∃N g,∀m,runM mm Tab.fns (N+m) (.call 189 [.agg [.list ns e,jn most]]) [] [] h=.val (.bool true) g:=by
 obtain⟨hB,ehB⟩:∃x,h.new (.cells [.list ns e,jn most])=x:=⟨_,rfl⟩;have hb:getCells hB h.next=some [.list ns e,jn most]:=by rw[<- ehB];exact fO
 have hlen:=λh:H=>qQ h ns e;obtain⟨N0,hc⟩:=apO (mm:=mm) (h:=hB) (ns:=ns) (e:=e) (fv:=.func (.func 284) [] [.bg h.next 0]) h0 h1 (by omega) ⟨rfl,rfl,rfl,rfl⟩ (λv hv2=>by
  obtain⟨x0,x1,x2,x3,q1,q2,q3⟩:=hv v hv2;subst q1;exact⟨x0,x1,x2,x3,rfl,q2,λN=>apH h2 hb (hlen _) ⟨rfl,rfl,rfl,rfl⟩ q2 q3 N⟩)
 have w1:Nat.ble 0 most=true:=dO (by omega);have w2:Nat.ble (Nat.succ 5000) most=false:=tu (by omega);have w3:Nat.ble (Nat.succ most) ns.length=false:=tu (by omega);refine⟨N0+301,hB,λm=>?_⟩;rw[show N0+301+m=(N0+m+300)+1 by omega,bn (by simp[ay,h3]) (show Tab.fns 189=some Tab.afX from rfl) rfl];have hp2:=λk=>(show runM mm Tab.fns (N0+m+k) (.call 286 [.list ns e,.func (.func 284) [] [.bg h.next 0]]) [] [] hB=.val (.bool false) hB by rw[gq];exact hc _);have hz:qo (.bool true) hB=(.bool true,hB):=by simp[qo,dF,kQ]
 generalize N0+m=M at *;generalize ns.length=L at *;unfold jn at *;simp -implicitDefEqProofs only[Tab.afX,WW,aS,aZ,aK,pad,aC.ev,aC.evs,bG,aF,skip,bK,Nat.blt,Nat.ble,finish,resV,dI,cO,dD,eqK,OR.eU,hp2,ehB,hb,hlen,w2,w3,hz]
end
section
variable {mm:eF}
def NV{k n m:Int}{nm:List Nat}{L:Nat}{ks:V}(h0:mm 199=none)(h1:mm 184=none)(hk:Kids m L ks)(N:Nat) :
  runM mm Tab.fns (N+60) (.call 199 [nd k n nm ks]) [] [] emp=.val (nd k n nm (mG ks)) (BR ks):=by
 have hcl:∀N,runM mm Tab.fns (N+30) (.call 184 [ks]) [] [] emp=.val (mG ks) (BR ks):=by
  intro N;rw[bn (by simp[ay,h1]) (show Tab.fns 184=some Tab.G8 from rfl) rfl];cases hk<;>simp -implicitDefEqProofs only[Tab.G8,WW,aS,aZ,aK,dN,pad,aC.ev,bG,aF,takeN,bf,yH,bK,Nat.reduceAdd,Nat.reduceMul,Nat.beq,Nat.ble,finish,resV,dI,nH,uV,gX,jU,OR.eU,rep,chunk,fH,bJ,xY,oO,List.length,ou,iJ,SK,vG,mG,BR]
 rw[bn (by simp[ay,h0]) (show Tab.fns 199=some Tab.UR from rfl) rfl];have hL:wo ks=false:=by cases hk<;>rfl
 have hc:V.cells (mG ks)=[mG ks]:=by cases hk<;>rfl
 have ho:qW (mG ks)=true:=by cases hk<;>rfl
 have hm:isVal (mG ks)=true:=by cases hk<;>rfl
 generalize mG ks=X at hcl hc ho hm|-;generalize BR ks=Y at hcl|-;generalize hx:ks=Z at hcl hL;unfold nd;simp -implicitDefEqProofs only[Tab.UR,WW,aS,aZ,aK,pad,aC.ev,aC.evs,fJ,bG,aF,dA,eP,bH,splice,bC,takeN,skip,bf,bK,Nat.reduceAdd,Nat.beq,finish,resV,dI,mk,hL,hcl,hm,hc,ho]
end
section
variable {mm:eF}
def akH{m k n:Int}{nm:List Nat}{L:Nat}{ks:V}(hk:Kids m L ks):nT (.agg [.int .i64 k,.int .i64 n,.str nm,ks]) (.agg [.int .i64 k,.int .i64 n,.str nm,ks])=true:=by
 have hi:∀x:Int,sK x x=true:=λx=>by rw[uo];simp
 have hb:mW nm nm=true:=by rw[um];simp
 cases hk<;>simp[nT,Au,eqK,hi,hb]
def Kids.node{m:Int}{L:Nat}{ks:V}(hk:Kids m L ks)(k n:Int)(nm:List Nat):IsNode (nd k n nm (dU ks)):=by
 cases hk with
 |nil=>exact .nil _ _ _
 |k0=>exact .list _ _ _ _ _
 |_=>exact .list _ _ _ _ _
def ajZ{ns:List V}{e:Bool}{h:H}(h0:mm 443=none)(hn:Nodes ns)(N:Nat) :
  runM mm Tab.fns (N+30) (.call 443 [.list ns e]) [] [] h=.val (.list ns true) h:=by
 rw[bn (by simp[ay,h0]) (show Tab.fns 443=some Tab.af6 from rfl) rfl];have hz:=Q8 hn;have hb:Nat.ble ns.length ns.length=true:=Nat.ble_self_eq_true _;have h0:Nat.ble 0 ns.length=true:=by simp
 simp -implicitDefEqProofs only[Tab.af6,WW,aS,aZ,aK,pad,aC.ev,D7,bG,aF,bK,finish,resV,dI,OR.eU,EY,hz,jG,bound,hb,List.take_length,rG,adO,jP]
def anY{ns:List V}{e:Bool}{h:H}(hn:Nodes ns):bJ h 4 ns.length (.list ns e)=some (fl ns):=by
 have hb:Nat.ble ns.length ns.length=true:=Nat.ble_self_eq_true _;simp only[bJ,Q8 hn,hb,aU,cond_true,YJ hn];exact zh (FT hn).symm
def agW{m k n:Int}{nm:List Nat}{L:Nat}{ks:V}(hk:Kids m L ks){h:H}(hg:∀x xs e,ks=.list (x::xs) e->h.get 0=some (.cells (x::xs)))(N:Nat) :
  ∃h2,dF (N+20) [nd k n nm (mG ks)] h=([nd k n nm (dU ks)],h2):=by
 cases hk with
 |nil=>exact⟨h,by simp[nd,mG,dU,dF,kQ]⟩
 |k0=>exact⟨h,by simp[nd,mG,dU,dF,kQ]⟩
 |_=>exact⟨h.del 0,by have e:=hg _ _ _ rfl;simp[nd,mG,dU,dF,kQ,e,chunk,takeN,skip,elemOf]⟩
def ar1{m:Int}{L:Nat}{ks:V}(hk:Kids m L ks)(o:Obj):∀x xs e,ks=.list (x::xs) e->(((BR ks).new o).del (BR ks).next).get 0=some (.cells (x::xs)):=by
 intro x xs e hx;subst hx;rw[H.Ag,H.rY];rfl
def agY{ns:List V}{m k n a b most:Int}{nm:List Nat}{L:Nat}{ks:V}(hn:Nodes ns)(hk:Kids m L ks)(hl:ns.length<=100000) :
  ∃h2,qo (.tuple [.agg [.hsl (BR ks).next 0 (ns.length+1) none 4,.int .i64 most],.int .i64 a,.int .i64 b]) ((BR ks).new (.cells (fl ns++[.int .i64 k,.int .i64 n,.str nm,mG ks])))=(.tuple [.agg [.list (ns++[nd k n nm (dU ks)]) false,.int .i64 most],.int .i64 a,.int .i64 b],h2):=by
 have hch:chunk 4 (ns.length+1) (fl ns++[.int .i64 k,.int .i64 n,.str nm,mG ks])=some (ns++[nd k n nm (mG ks)]):=by
  have:=OH (ns:=ns++[nd k n nm (mG ks)]) (λv hv=>by
   rcases dH.1 hv with h|h
   .exact hn.n4 v h
   .simp at h;subst h;exact aut _ _ _ _)
  simpa[Bo,fl,nd,V.cells]using this
 have hg:=H.rY (BR ks) (BR ks).next (.cells (fl ns++[.int .i64 k,.int .i64 n,.str nm,mG ks]));rw[if_pos rfl]at hg;obtain⟨h2,e2⟩:=agW (k:=k) (n:=n) (nm:=nm) hk (ar1 hk (.cells (fl ns++[.int .i64 k,.int .i64 n,.str nm,mG ks]))) (999997-20-ns.length);have e3:=CU (ns:=ns) [nd k n nm (mG ks)] (999997-5-ns.length) (((BR ks).new (.cells (fl ns++[.int .i64 k,.int .i64 n,.str nm,mG ks]))).del (BR ks).next) hn;have q1:999997-5-ns.length+5+ns.length=999997:=by omega
 have q2:999997-5-ns.length+5=999997-20-ns.length+20:=by omega
 rw[q1,q2,e2]at e3;generalize (BR ks).new (.cells (fl ns++[.int .i64 k,.int .i64 n,.str nm,mG ks]))=H0 at hg e3|-;refine⟨h2,?_⟩;simp[qo,dF,kQ,hg,hch,skip,e3]
def agi{ns:List V}{e:Bool}{k n most:Int}{nm:List Nat}{L:Nat}{ks:V}(h0:mm 399=none)(h1:mm 199=none)(h2:mm 184=none)(h3:mm 443=none)
  (hn:Nodes ns) (hk:Kids (Int.ofNat (ns.length+1)) L ks) (hl:ns.length<=100000) (Ez:wX (Int.ofNat ns.length) most=true)
  (hmay:ay mm 285 [nd k n nm ks,.int .i64 (Int.ofNat (ns.length+1))]=some (.bool true)) (N:Nat) :
  ∃h2,runM mm Tab.fns (N+300) (.call 399 [.agg [.list ns e,.int .i64 most],nd k n nm ks]) [] [] emp=.val (.tuple [.agg [.list (ns++[nd k n nm (dU ks)]) false,.int .i64 most],.int .i64 (Int.ofNat ns.length),.int .i64 (Int.ofNat 0)]) h2:=by
 obtain⟨hz,ez⟩:=agY (k:=k) (n:=n) (nm:=nm) (a:=Int.ofNat ns.length) (b:=Int.ofNat 0) (most:=most) hn hk hl;refine⟨hz,?_⟩;rw[bn (by simp[ay,h0]) (show Tab.fns 399=some Tab.af5 from rfl) rfl];have hown:=λN=>NV (k:=k) (n:=n) (nm:=nm) h1 h2 hk N;have ayX:=λN h=>ajZ (e:=e) (h:=h) h3 hn N;have Kr:=akH (k:=k) (n:=n) (nm:=nm) hk;have aln:=λN fr lo h=>dJ (fns:=Tab.fns) (n:=N) (fr:=fr) (lo:=lo) (h:=h) hmay;have hb:Nat.ble ns.length 9223372036854775806=true:=by simp;omega
 have hb2:Nat.ble ns.length 16777215=true:=by simp;omega
 have hsrc:=λh=>anY (e:=true) (h:=h) hn;have hL:wo ks=false:=by cases hk<;>rfl
 have hV:isVal (mG ks)=true:=by cases hk<;>rfl
 have hC:(mG ks).cells=[mG ks]:=by cases hk<;>rfl
 have hO:qW (mG ks)=true:=by cases hk<;>rfl
 clear hk;have hs1:∀h:H,bJ h 4 1 (.list [.agg [.int .i64 k,.int .i64 n,.str nm,mG ks]] true)=some [.int .i64 k,.int .i64 n,.str nm,mG ks]:=λ_=>rfl;generalize mG ks=X at *;generalize BR ks=Y at *;generalize dU ks=Z at *;unfold nd at *;generalize hlen:ns.length=len at *;simp -implicitDefEqProofs only[Tab.af5,WW,aS,aZ,aK,dN,fG,pad,aC.ev,aC.evs,fJ,bG,aF,dA,eP,bH,splice,bC,takeN,skip,bf,yH,bK,Nat.reduceAdd,Nat.beq,Nat.blt,Nat.ble,finish,resV,dI,mk,cO,dD,mV,iK,eqK,OR.eU,yg,hown,ayX,Kr,aln,Ez,hb,hb2,hsrc,hO,fH,hs1,ou,iJ,SK,chunk,elemOf,rep,iY,ez,hlen]
end
end Go.Vx
