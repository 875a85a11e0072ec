/- A part of the proof of TopForks. -/
import Derived.Test.YteajegmpafjbgaaGreatDoorVaj
set_option linter.all false
set_option maxRecDepth 1000000
set_option maxHeartbeats 80000000
noncomputable section
open Go Go.RowKit
namespace Go.Vx
structure GcW (mm:eF)(hv:List V)(R:Nat->Prop)(T:Nat->Nat)(nk nn:Nat->Int)(nm:Nat->List Nat)(js:Nat->List Nat)(nl:Nat->Bool):Prop where
 at_:∀p,R p->∃ks,ay mm 88 [.agg hv,jn p]=some (.tuple [nd (nk (T p)) (nn (T p)) (nm (T p)) ks,jn (T p),jn 0])/\((ks=.aj/\js (T p)=[]\/∃e,ks=.list ((js (T p)).map jn) e)/\(ks=.aj<->nl (T p)=true))
 kids:∀p,R p->∀j∈js (T p),R j
def H8(T:Nat->Nat)(o:List Nat)(p:Nat):List Nat:=if T p∈o then o else o++[T p]
def arM(T:Nat->Nat)(o:List Nat)(p:Nat):o <+: H8 T o p:=by
 unfold H8
 split
 .exact List.prefix_refl o
 .exact List.prefix_append o _
def aff(T:Nat->Nat)(o:List Nat)(p:Nat):T p∈H8 T o p:=by
 unfold H8
 split
 .assumption
 .simp
def Ua{T:Nat->Nat}{o:List Nat}{p:Nat}(h:o.Nodup):(H8 T o p).Nodup:=by
 unfold H8
 split
 .exact h
 .rename_i hn;rw[List.nodup_append];exact⟨h,by simp,λa ha b hb=>by simp at hb;subst hb;intro e;subst e;exact hn ha⟩
def amx{T:Nat->Nat}{o:List Nat}{p q:Nat}(h:q∈H8 T o p):q∈o\/q=T p:=by
 unfold H8 at h
 split at h
 .exact .inl h
 .simpa using h
def DL(T:Nat->Nat):List Nat->List Nat->List Nat
 |o,[]=>o
 |o,p::ps=>DL T (H8 T o p) ps
def NS(T:Nat->Nat):∀(ps o:List Nat),o <+: DL T o ps
 |[],o=>List.prefix_refl o
 |p::ps,o=>(arM T o p).trans (NS T ps _)
def Jm(T:Nat->Nat):∀{ps o:List Nat} {p:Nat},p∈ps->T p∈DL T o ps
 |[],o,p,h=>by cases h
 |q::ps,o,p,h=>by
  rcases bU.1 h with rfl|h
  .exact(NS T ps _).subset (aff T o p)
  .exact Jm (ps:=ps) (o:=H8 T o q) T h
def Ub{T:Nat->Nat}:∀{ps o:List Nat},o.Nodup->(DL T o ps).Nodup
 |[],o,h=>h
 |p::ps,o,h=>Ub (ps:=ps) (Ua h)
def WB{T:Nat->Nat}:∀{ps o:List Nat} {q:Nat},q∈DL T o ps->q∈o\/∃p∈ps,q=T p
 |[],o,q,h=>.inl h
 |p::ps,o,q,h=>by
  rcases WB (ps:=ps) h with h|⟨x,hx,e⟩
  .rcases amx h with h|h
   .exact .inl h
   .exact .inr ⟨p,bZ,h⟩
  .exact .inr ⟨x,bW _ hx,e⟩
def VT{o o2:List Nat}{q:Nat}(h:o <+: o2)(hq:q∈o):o2.idxOf q=o.idxOf q:=by
 obtain⟨r,rfl⟩:=h;rw[List.idxOf_append,if_pos hq]
def ents:Nat->List Nat->List (V×V)
 |_,[]=>[]
 |i,q::o=>(jn q,jn i)::ents (i+1) o
def LM:∀(a:List Nat) (i q:Nat),ents i (a++[q])=ents i a++[(jn q,jn (i+a.length))]
 |[],i,q=>rfl
 |x::a,i,q=>by
  simp only[dZ,ents,LM a,bP];rw[show i+1+a.length=i+(a.length+1) by omega]
def LP:∀(a:List Nat) (i:Nat),(ents i a).length=a.length
 |[],i=>rfl
 |x::a,i=>by simp only[ents,bP,LP a]
def avx(h:H)(a b:Nat):eqV h (jn a) (jn b)=some (Nat.beq a b):=rfl
def Hw(h:H)(q:Nat):∀(o:List Nat) (i k:Nat),oN h (jn q) (ents i o) k=some (if q∈o then some (k+o.idxOf q,jn (i+o.idxOf q))else none)
 |[],i,k=>by simp[ents,oN]
 |x::o,i,k=>by
  simp only[ents,oN,avx];by_cases hq:q=x
  .subst hq;simp[]
  .have hb:Nat.beq q x=false:=iH hq;have hx:(x==q)=false:=by simpa using Ne.symm hq
   simp only[hb,cond_false,Hw h q o (i+1) (k+1),bU,hq,false_or,List.idxOf_cons,hx]
   split
   .simp only[aG,Prod.mk.injEq];exact⟨by omega,by congr 1;omega⟩
   .rfl
def uY(nk nn:Nat->Int)(nm:Nat->List Nat):List Nat->List V->List V
 |q::o,k::ks=>nd (nk q) (nn q) (nm q) k::uY nk nn nm o ks
 |_,_=>[]
def wZ(nk nn:Nat->Int)(nm:Nat->List Nat):∀(o:List Nat) (ks:List V),ks.length=o.length->(uY nk nn nm o ks).length=o.length
 |[],ks,h=>by cases ks<;>rfl
 |q::o,[],h=>by simp at h
 |q::o,k::ks,h=>by simp only[uY,bP,wZ nk nn nm o ks (by simpa using h)]
def Qm(nk nn:Nat->Int)(nm:Nat->List Nat)(q:Nat)(k:V):∀(o:List Nat) (ks:List V),ks.length=o.length->uY nk nn nm (o++[q]) (ks++[k])=uY nk nn nm o ks++[nd (nk q) (nn q) (nm q) k]
 |[],ks,h=>by cases ks<;>first|rfl|simp at h
 |x::o,[],h=>by simp at h
 |x::o,y::ks,h=>by simp only[dZ,uY,Qm nk nn nm q k o ks (by simpa using h)]
def GR(nk nn:Nat->Int)(nm:Nat->List Nat):∀(o:List Nat) (ks:List V),ks.length=o.length->(fl (uY nk nn nm o ks)).length=o.length*4
 |[],ks,h=>by cases ks<;>first|rfl|simp at h
 |x::o,[],h=>by simp at h
 |x::o,y::ks,h=>by
  have:=GR nk nn nm o ks (by simpa using h);simp only[uY,fl,bI,this,bP,nd,V.cells,jS];omega
structure MV (nk nn:Nat->Int)(nm:Nat->List Nat)(h:H)(mid mp:Nat)(hv:List V)(xH:V)(o:List Nat)(ks:List V):Prop where
 hv2:hv.length=2
 c:getCells h mid=some (hv++[xH,.map mp,.bool false])
 m:gK h mp=some (ents 0 o)
 t:(o=[]/\xH=.aj)\/∃tid,xH=.hsl tid 0 o.length none 4/\getCells h tid=some (fl (uY nk nn nm o ks))/\tid<h.next/\tid≠mid/\tid≠mp
 kl:ks.length=o.length
 lm:mid<h.next
 lp:mp<h.next
 ne:mid≠mp
section
variable {mm:eF}{nk nn:Nat->Int}{nm:Nat->List Nat}{h:H}{mid mp:Nat}{a0 a1 xH:V}{o:List Nat}{ks:List V}{R:Nat->Prop}{T:Nat->Nat}{js:Nat->List Nat}
def amv(h0:mm 287=none){p q:Nat}{k n:Int}{nam:List Nat}{kv:V}(hat:ay mm 88 [.agg [a0,a1],jn p]=some (.tuple [nd k n nam kv,jn q,jn 0]))
  (hkv:qW kv=true) (hc:getCells h mid=some [a0,a1,xH,.map mp,.bool false]) (hm:gK h mp=some (ents 0 o)) (hq:q∈o) (N:Nat) :
  runM mm Tab.fns (N+300) (.call 287 [.bg mid 0,jn p]) [] [] h=.val (jn (o.idxOf q)) h:=by
 have alj:=λN fr lo h=>dJ (fns:=Tab.fns) (n:=N) (fr:=fr) (lo:=lo) (h:=h) hat
 have hf:=Hw h q o 0 0;rw[if_pos hq]at hf;rw[bn (by simp[ay,h0]) (show Tab.fns 287=some Tab.MX from rfl) rfl];generalize hen:ents 0 o=E at *;generalize hix:o.idxOf q=I at *;unfold nd jn at *;simp -implicitDefEqProofs only[Tab.MX,WW,aS,aZ,aK,mapOf,tZ,iy,pad,aC.ev,aC.evs,fJ,bG,aF,dA,eP,bH,splice,bC,takeN,skip,bf,bK,Nat.reduceAdd,Nat.beq,finish,resV,dI,eqK,nH,fU,gX,jU,OR.eU,alj,hc,hm,hf,hkv,IU]
def aeG(a:Nat):nT (.map a) (.map a)=true:=by simp[nT]
def Uy:∀(E:List (V×V)) (k x y:V),AQ (E++[(k,x)]) E.length y=E++[(k,y)]
 |[],k,x,y=>rfl
 |(a,b)::E,k,x,y=>by
  have:=Uy E k x y;simp only[dZ,bP,AQ,this]
def ah0(h0:mm 287=none){p q:Nat}{k n:Int}{nam:List Nat}{kv:V}(hat:ay mm 88 [.agg [a0,a1],jn p]=some (.tuple [nd k n nam kv,jn q,jn 0]))
  (hkv:qW kv=true) (hkl:wo kv=false) (hkm:isVal kv=true) (hkc:kv.cells=[kv]) (hc:getCells h mid=some [a0,a1,.aj,.map mp,.bool false]) (hm:gK h mp=some (ents 0 [])) (hlm:h.next≠mid) (hlp:h.next≠mp) (hne:mid≠mp) :
  ∃h2,(∀N,runM mm Tab.fns (N+400) (.call 287 [.bg mid 0,jn p]) [] [] h=.val (jn 0) h2) /\
   getCells h2 mid=some [a0,a1,.hsl h.next 0 1 none 4,.map mp,.bool false]/\gK h2 mp=some (ents 0 [q])/\getCells h2 h.next=some [.int .i64 k,.int .i64 n,.str nam,kv]/\h2.next=h.next+1/\∀j,j<h.next->j≠mid->j≠mp->h2.get j=h.get j:=by
 have alj:=λN fr lo h=>dJ (fns:=Tab.fns) (n:=N) (fr:=fr) (lo:=lo) (h:=h) hat
 refine⟨?h2,?eq,?c,?m,?t,?n,?g⟩
 case eq =>
  intro N;rw[bn (by simp[ay,h0]) (show Tab.fns 287=some Tab.MX from rfl) rfl];unfold nd jn ents at *;simp -implicitDefEqProofs only[Tab.MX,WW,aS,aZ,aK,dN,mapOf,tZ,Hu,iy,fG,pad,aC.ev,aC.evs,fJ,bG,aF,dA,eP,bH,splice,bC,takeN,skip,bf,yH,bK,Nat.reduceAdd,Nat.reduceMul,Nat.beq,Nat.blt,Nat.ble,finish,resV,dI,eqK,nH,fU,gX,jU,OR.eU,yg,alj,hc,hm,hkv,IU,oN,fH,bJ,xY,oO,ou,iJ,SK,chunk,elemOf,rep,AQ,aeG,oD,Ah,FW,Kq,hlm,hlp,hne,ne_eq,SQ];rfl
 case c=>simp only[gy (Ne.symm hne),gG]
 case m=>exact Ah
 case t=>rw[gy (Ne.symm hlp),gy (Ne.symm hlp),gy (Ne.symm hlm)];exact fO
 case n=>rfl
 case g =>
  intro j h1 h2 h3;rw[eu _ (Ne.symm h3),eu _ (Ne.symm h3),eu _ (Ne.symm h2),iq _ (by omega)]
def Gu{n:Nat}{cs:List V}(e:n=cs.length):yC n (some cs) 0=some cs:=by
 simp only[yC,skip];exact zh e
def ah1(h0:mm 287=none){p q tid len:Nat}{k n:Int}{nam:List Nat}{kv:V}{cs:List V}(hat:ay mm 88 [.agg [a0,a1],jn p]=some (.tuple [nd k n nam kv,jn q,jn 0]))
  (hkv:qW kv=true) (hkl:wo kv=false) (hkm:isVal kv=true) (hkc:kv.cells=[kv]) (hc:getCells h mid=some [a0,a1,.hsl tid 0 len none 4,.map mp,.bool false]) (hm:gK h mp=some (ents 0 o)) (hl:o.length=len) (hq:q∉o) (ht:getCells h tid=some cs) (hcs:cs.length=len*4) (hlen:len<=100000) (hlm:h.next≠mid) (hlp:h.next≠mp) (hne:mid≠mp) (htm:tid≠mid) (htp:tid≠mp) (htn:h.next≠tid) :
  ∃h2,(∀N,runM mm Tab.fns (N+400) (.call 287 [.bg mid 0,jn p]) [] [] h=.val (jn len) h2) /\
   getCells h2 mid=some [a0,a1,.hsl h.next 0 (len+1) none 4,.map mp,.bool false]/\gK h2 mp=some (ents 0 (o++[q]))/\getCells h2 h.next=some (cs++[.int .i64 k,.int .i64 n,.str nam,kv])/\h2.next=h.next+1/\∀j,j<h.next->j≠mid->j≠mp->j≠tid->h2.get j=h.get j:=by
 have alj:=λN fr lo h=>dJ (fns:=Tab.fns) (n:=N) (fr:=fr) (lo:=lo) (h:=h) hat
 have hf:=λh=>Hw h q o 0 0;simp only[if_neg hq]at hf;have hen:=LM o 0 q;have hel:=LP o 0;rw[hl]at hel hen;rw[iF]at hen;have hb2:Nat.ble len 16777215=true:=by simp;omega
 have hsx:=Uy (ents 0 o) (jn q) (jn 0) (jn len);rw[hel]at hsx;have hbl:Nat.blt len (len+1)=true:=by simp[Nat.blt]
 have aB2:(ents 0 o++[(jn q,jn 0)]).length=len+1:=by rw[bI,hel];rfl
 have hbs:Nat.ble len len=true:=by simp
 have htk:yC (len*4) (some cs) 0=some cs:=Gu hcs.symm;rw[hen];generalize ents 0 o=E at *;refine⟨?h2,?eq,?c,?m,?t,?n,?g⟩
 case eq =>
  intro N;rw[bn (by simp[ay,h0]) (show Tab.fns 287=some Tab.MX from rfl) rfl];unfold nd jn at *;simp -implicitDefEqProofs only[Tab.MX,WW,aS,aZ,aK,dN,mapOf,tZ,Hu,iy,fG,pad,aC.ev,aC.evs,fJ,bG,aF,dA,eP,bH,splice,bC,takeN,skip,bf,yH,bK,Nat.reduceAdd,Nat.reduceMul,Nat.beq,Nat.blt,Nat.ble,finish,resV,dI,eqK,nH,fU,gX,jU,OR.eU,yg,alj,hc,hm,ht,hkv,hf,hel,aB2,hsx,hbs,htk,hb2,IU,fH,bJ,xY,oO,ou,iJ,Aq,SK,chunk,elemOf,rep,aeG,oD,Tt,Ah,FW,Kq,ag0,xg,hlm,hlp,hne,htm,htp,ne_eq,SQ];rfl
 case c=>simp only[gy (Ne.symm hne),gG]
 case m=>exact Ah
 case t=>rw[gy (Ne.symm hlp),gy (Ne.symm hlp),gy (Ne.symm hlm)];exact fO
 case n=>rfl
 case g =>
  intro j h1 h2 h3 h4;rw[eu _ (Ne.symm h3),eu _ (Ne.symm h3),eu _ (Ne.symm h2),iq _ (by rw[xg];omega),kE (Ne.symm h4)]
end
end Go.Vx
section
open Go Go.RowKit
namespace Go.Vx.Tab
def XU:aN:=s (r [bt 12 .lss 11 10]) (s (zx 12 0) (s (.block 1 (s (r [m 13 11,m 6 13]) (r [m 14 5,m 15 6,m 16 0,m 17 5,m 18 6,ia 19 1 17 18,ld 20 19,k 21 287 [t 16,t 20],ia 22 1 14 15,st 1 22 21]))) (r [bi 23 .add 11 1,m 11 23])))
def ajy:(Tab.G9).body=s (r [o 4 (.mv (c .aj))]) (s (r [m 7 1,k 8 184 [t 7],m 5 8]) (s (s (r [m 9 5,ln 10 0 9,ci 11 0]) (bl 0 XU)) (s (r [m 24 5,m 4 24]) .ret))):=rfl
end Go.Vx.Tab
namespace Go.Vx
variable {mm:eF}{h h1:H}{mid mp kY n i p r:Nat}{fr cs cs2 rest:List V}{lo:Lo}{v:V}
structure AI (fr:List V)(mid:Nat)(v:V)(n i:Nat):Prop where
 fl:fr.length=25
 s0:aA fr 0=.bg mid 0
 s5:aA fr 5=v
 s9:aA fr 9=v
 s10:aA fr 10=jn n
 s11:aA fr 11=jn i
def ajz(hI:AI fr mid (.hsl kY 0 n none 1) n i)(hi:i<n)(hn:n<=1000000)(hc:getCells h kY=some cs)(hs:skip i cs=jn p::rest)(hm:∀N,runM mm Tab.fns (N+400) (.call 287 [.bg mid 0,jn p]) [] [] h=.val (jn r) h1)
  (hc1:getCells h1 kY=some cs) (hsp:splice i cs [jn r]=some cs2) :
  ∃aB,(∀N,runM mm Tab.fns (N+500) (.code Tab.XU) fr lo h=.norm aB lo (h1.set kY (.cells cs2)))/\AI aB mid (.hsl kY 0 n none 1) n (i+1):=by
 obtain⟨fl,s0,s5,s9,s10,s11⟩:=hI;have hb:Nat.blt i n=true:=by simp[Nat.blt];omega
 have hbe:Nat.ble (i+1) n=true:=by simp;omega
 have hw:Nat.blt (i+1) 9223372036854775808=true:=by simp[Nat.blt];omega
 have hw2:Nat.ble i 9223372036854775806=true:=by simp;omega
 unfold jn at *;refine⟨?aB,?eq,?ai⟩
 case eq =>
  intro N;simp -implicitDefEqProofs only[Tab.XU,WW,aS,aZ,aK,aC.ev,aC.evs,bG,aF,bH,bf,Nat.beq,Nat.blt,Nat.ble,cO,dD,mV,eH,iK,eqK,OR.eU,LL9,Nat.reduceEqDiff,Nat.reduceLT,Nat.beq,fl,s0,s5,s10,s11,hbe,hw2,hc,hs,hm,hc1,hsp,Nat.mul_one];rfl
 case ai =>
  constructor<;>first|rfl|simp only[LL9,Nat.reduceEqDiff,Nat.reduceLT,fl,s0,s5,s9,s10,jn]
def Oq(hI:AI fr mid v n n):∃aB,(∀N,runM mm Tab.fns (N+500) (.code Tab.XU) fr lo h=.jump (.exit 0) aB lo h)/\AI aB mid v n n:=by
 obtain⟨fl,s0,s5,s9,s10,s11⟩:=hI;have hb:Nat.ble (n+1) n=false:=tu (by omega);unfold jn at *;refine⟨?aB,?eq,?ai⟩
 case eq =>
  intro N;simp -implicitDefEqProofs only[Tab.XU,WW,aS,aZ,aK,aC.ev,bG,Nat.blt,cO,dD,eH,eqK,OR.eU,LL9,Nat.reduceLT,fl,s10,s11,hb];rfl
 case ai =>
  constructor<;>first|rfl|simp only[LL9,Nat.reduceEqDiff,fl,s0,s5,s9,s10,s11,jn]
def IIn(h:H)(v:V)(js:List Nat):Prop:=(v=.aj/\js=[])\/(∃e,v=.list (js.map jn) e)\/∃id,v=.hsl id 0 js.length none 1/\getCells h id=some (js.map jn)
inductive IS (h:H)(lo:Nat):V->List Nat->Prop
 |nil:IS h lo .aj []
 |emp:IS h lo (.list [] true) []
 |own {id:Nat} {js:List Nat} (hid:lo<=id) (hl:id<h.next) (hg:getCells h id=some (js.map jn)) (hne:js≠[]):IS h lo (.hsl id 0 js.length none 1) js
def YK:∀js:List Nat,oO (js.map jn)=js.map jn
 |[]=>rfl
 |j::js=>by show V.cells (jn j)++oO (js.map jn)=_;rw[YK js];rfl
def afr:∀js:List Nat,bf (js.map jn)=true
 |[]=>rfl
 |j::js=>by simp only[bD,bf,afr js,jn,qW,aU]
def asX:∀js:List Nat,xY 1 (js.map jn)=true
 |[]=>rfl
 |j::js=>rfl
def Xv{v:V}{js:List Nat}(hi:IIn h v js):fH v=some js.length/\bJ h 1 js.length v=some (js.map jn)/\qW v=true/\wo v=false:=by
 rcases hi with⟨rfl,rfl⟩|⟨e,rfl⟩|⟨id,rfl,hg⟩
 .exact⟨rfl,rfl,rfl,rfl⟩
 .have h1:(js.map jn).length=js.length:=by simp
  refine⟨by simp[fH],?_,rfl,rfl⟩;simp only[bJ,asX,h1,dO (aJ _),aU,cond_true,YK,Nat.mul_one];exact zh h1.symm
 .refine⟨rfl,?_,rfl,rfl⟩;simp only[bJ,hg,show Nat.beq 1 1=true from rfl,dO (aJ _),aU,cond_true,Nat.mul_one];exact Gu (by simp)
def OJ(h0:mm 184=none){v:V}{js:List Nat}(hi:IIn h v js)(hl:js.length<=1000000) :
  ∃v2 h2,(∀N,runM mm Tab.fns (N+60) (.call 184 [v]) [] [] h=.val v2 h2)/\IS h2 h.next v2 js/\h.next<=h2.next/\(∀j,j<h.next->h2.get j=h.get j)/\(v2=.aj<->v=.aj):=by
 have hb:=λN=>bn (mm:=mm) (n:=N) (f:=184) (a:=[v]) (fr:=[]) (lo:=[]) (h:=h) (by simp[ay,h0]) (show Tab.fns 184=some Tab.G8 from rfl) rfl;obtain⟨s1,s2,s3,s4⟩:=Xv hi;by_cases hn:v=.aj
 .subst hn;have hj:js=[]:=by
   rcases hi with⟨_,rfl⟩|⟨e,h⟩|⟨id,h,_⟩
   .rfl
   .cases h
   .cases h
  subst hj;refine⟨.aj,h,λN=>?_,.nil,aJ _,λj _=>rfl,Iff.rfl⟩;rw[hb];simp -implicitDefEqProofs only[Tab.G8,WW,aS,aZ,aK,pad,aC.ev,bG,aF,bK,finish,resV,dI,nH,uV,gX,jU,OR.eU]
 .have hns:uV v .aj=some false:=by
   rcases hi with⟨rfl,_⟩|⟨e,rfl⟩|⟨id,rfl,_⟩
   .exact absurd rfl hn
   .rfl
   .rfl
  by_cases hj:js=[]
  .subst hj;refine⟨.list [] true,h,λN=>?_,.emp,aJ _,λj _=>rfl,⟨λh=>(by cases h),λh=>absurd h hn⟩⟩;rw[hb];simp only[kX,jS]at s1 s2;generalize v=X at *;simp -implicitDefEqProofs only[Tab.G8,WW,aS,aZ,aK,dN,pad,aC.ev,bG,aF,bf,yH,bK,Nat.beq,finish,resV,dI,nH,gX,jU,OR.eU,hns,s1,s2,ou,SK,chunk,rep]
  .have hp:0<js.length:=uN.2 hj;have hz:Nat.beq js.length 0=false:=iH (by omega);have hm:Nat.ble js.length 16777216=true:=dO (by omega);have hok:=afr js;have hold:bJ h 1 0 (.list [] true)=some []:=rfl;refine⟨.hsl h.next 0 js.length none 1,h.new (.cells (js.map jn)),λN=>?_,.own (aJ _) (by rw[iU];omega) fO hj,by rw[iU];omega,λj hj=>iq _ (by omega),⟨λh=>(by cases h),λh=>absurd h hn⟩⟩;rw[hb];generalize hlen:js.length=len at *;generalize js.map jn=cs at *;generalize v=X at *;simp -implicitDefEqProofs only[Tab.G8,WW,aS,aZ,aK,dN,pad,aC.ev,bG,aF,yH,bK,finish,resV,dI,nH,gX,jU,OR.eU,hns,s1,s2,ou,SK,chunk,rep,hz,hm,hok,hold,iJ]
def KR(v:V)(js:List Nat):Prop:=(v=.aj/\js=[])\/∃e,v=.list (js.map jn) e
def KR.qW{v:V}{js:List Nat}(h:KR v js):qW v=true/\wo v=false/\isVal v=true/\v.cells=[v]:=by
 rcases h with⟨rfl,_⟩|⟨e,rfl⟩<;>exact⟨rfl,rfl,rfl,rfl⟩
def KN(nl:Bool)(v:V)(js:List Nat):Prop:=KR v js/\(v=.aj<->nl=true)
def KN.qW{nl:Bool}{v:V}{js:List Nat}(h:KN nl v js):qW v=true/\wo v=false/\isVal v=true/\v.cells=[v]:=h.1.qW
def dw(v:V)(j:Nat):Prop:=∃b c d e,v=.hsl j b c d e
variable {nk nn:Nat->Int}{nm:Nat->List Nat}{a0 a1 xH:V}{o:List Nat}{ks:List V}{R:Nat->Prop}{T:Nat->Nat}{js:Nat->List Nat}{nl:Nat->Bool}
def amw(h0:mm 287=none)(hg:GcW mm [a0,a1] R T nk nn nm js nl)(hM:MV nk nn nm h mid mp [a0,a1] xH o ks)(hR:R p)(hl:o.length<=100000) :
  ∃h2 zO PZ,(∀N,runM mm Tab.fns (N+400) (.call 287 [.bg mid 0,jn p]) [] [] h=.val (jn ((H8 T o p).idxOf (T p))) h2) /\
   MV nk nn nm h2 mid mp [a0,a1] zO (H8 T o p) (ks++PZ)/\(∀(i:Nat) v q,PZ[i]?=some v->(H8 T o p)[ks.length+i]?=some q->KN (nl q) v (js q))/\h.next<=h2.next /\
   (∀j,j<h.next->j≠mid->j≠mp->¬dw xH j->h2.get j=h.get j)/\(∀j,dw zO j->dw xH j\/h.next<=j):=by
 obtain⟨kv,hat,hkv⟩:=hg.at_ p hR;have hK:KN (nl (T p)) kv (js (T p)):=hkv;obtain⟨k1,k2,k3,k4⟩:=hK.qW;obtain⟨_,hc,hm,ht,kl,lm,lp,ne⟩:=hM;have hc:getCells h mid=some [a0,a1,xH,.map mp,.bool false]:=hc;by_cases hq:T p∈o
 .have e1:H8 T o p=o:=by unfold H8;rw[if_pos hq]
  rw[e1];refine⟨h,xH,[],λN=>?_,by rw[iY];exact⟨rfl,hc,hm,ht,kl,lm,lp,ne⟩,λi v q hi=>by simp at hi,aJ _,λj _ _ _ _=>rfl,λj hj=>.inl hj⟩;have:=amv (o:=o) h0 hat k1 hc hm hq (N+100)
  rwa[gq]at this
 .have e1:H8 T o p=o++[T p]:=by unfold H8;rw[if_neg hq]
  have hix:(o++[T p]).idxOf (T p)=o.length:=by
   rw[List.idxOf_append,if_neg hq];simp
  rw[e1,hix];have ay9:∀(i:Nat) v q,[kv][i]?=some v->(o++[T p])[ks.length+i]?=some q->KN (nl q) v (js q):=by
   intro i v q h1 h2;cases i with
   |succ i=>simp at h1
   |zero =>
    simp at h1;subst h1;rw[Nat.add_zero,kl]at h2;simp at h2;subst h2;exact hK
  rcases ht with⟨rfl,rfl⟩|⟨tid,rfl,hcs,htn,htm,htp⟩
  .have hk0:ks=[]:=Bc.1 kl;subst hk0;obtain⟨h2,g1,g2,g3,g4,g5,g6⟩:=ah0 h0 hat k1 k2 k3 k4 hc hm (by omega) (by omega) ne;refine⟨h2,_,[kv],g1,⟨rfl,g2,g3,.inr ⟨h.next,rfl,?_,by omega,by omega,by omega⟩,rfl,by omega,by omega,ne⟩,ay9,by omega,λj j1 j2 j3 _=>g6 j j1 j2 j3,λj hj=>?_⟩
   .rw[g4];rfl
   .obtain⟨b,c,d,e,hj⟩:=hj;cases hj;exact .inr (aJ _)
  .obtain⟨h2,g1,g2,g3,g4,g5,g6⟩:=ah1 h0 hat k1 k2 k3 k4 hc hm rfl hq hcs (GR nk nn nm o ks kl) hl (by omega) (by omega) ne htm htp (by omega);refine⟨h2,_,[kv],g1,⟨rfl,g2,g3,.inr ⟨h.next,by simp,?_,by omega,by omega,by omega⟩,by simp[kl],by omega,by omega,ne⟩,ay9,by omega,λj j1 j2 j3 j4=>g6 j j1 j2 j3 (λe=>j4 ⟨0,o.length,none,4,by rw[e]⟩),λj hj=>?_⟩
   .rw[g4,Qm nk nn nm _ _ _ _ kl,Bo];rfl
   .obtain⟨b,c,d,e,hj⟩:=hj;cases hj;exact .inr (aJ _)
end Go.Vx
end
namespace Go.Vx
section
def Ud:∀(n:Nat) (o:List Nat),o.Nodup->(∀q∈o,q<n)->o.length<=n
 |0,[],_,_=>aJ _
 |0,q::o,_,h=>absurd (h q bZ) (by omega)
 |n+1,o,hd,h=>by
  have h1:=Ud n (o.erase n) (hd.erase n) (λq hq=>by
   have:=h q (List.mem_of_mem_erase hq);have hne:q≠n:=λe=>by subst e;exact hd.not_mem_erase hq
   omega)
  by_cases hm:n∈o
  .have h2:=List.length_erase_of_mem hm;have h3:0<o.length:=List.length_pos_of_mem hm;omega
  .rw[List.erase_of_not_mem hm]at h1;omega
def QN{ds ps:List Nat}{p:Nat}:skip ds.length ((ds++p::ps).map jn)=jn p::ps.map jn:=by
 rw[pX,rQ,List.drop_left' (by simp)];rfl
def Ig{ds ps:List Nat}{p r:Nat}:splice ds.length ((ds++p::ps).map jn) [jn r]=some (((ds++[r])++ps).map jn):=by
 have e:(ds++p::ps).map jn=(ds.map jn++[jn p])++ps.map jn:=by simp
 have e2:(ds.map jn++[jn p]).length=ds.length+1:=by simp
 rw[ql _ _ _ (by simp),e];show some (List.take ds.length (ds.map jn++[jn p]++ps.map jn)++([jn r]++List.drop (ds.length+1) (ds.map jn++[jn p]++ps.map jn)))=_;rw[List.drop_left' e2,fP (ds.map jn),List.take_left' (by simp)];simp
variable {mm:eF}{h:H}{mid mp kY n:Nat}{fr:List V}{lo:Lo}{nk nn:Nat->Int}{nm:Nat->List Nat}{a0 a1 xH:V}{o:List Nat}{ks:List V}{R:Nat->Prop}{T:Nat->Nat}{js:Nat->List Nat}{nl:Nat->Bool}
structure Bd (R:Nat->Prop)(T:Nat->Nat)(o:List Nat):Prop where
 t:∀p,R p->T p<100000
 lt:∀q∈o,q<100000
 nd:o.Nodup
def Bd.len(hb:Bd R T o):o.length<=100000:=Ud _ _ hb.nd hb.lt
def Bd.H8(hb:Bd R T o){p:Nat}(hp:R p):Bd R T (H8 T o p):=⟨hb.t,λq hq=>by
 rcases amx hq with h|h
 .exact hb.lt q h
 .subst h;exact hb.t p hp,Ua hb.nd⟩
def Bd.DL(hb:Bd R T o){ps:List Nat}(hp:∀p∈ps,R p):Bd R T (DL T o ps):=⟨hb.t,λq hq=>by
 rcases WB hq with h|⟨p,h,rfl⟩
 .exact hb.lt q h
 .exact hb.t p (hp p h),Ub hb.nd⟩
def mQ{mm:eF}{fns:Nat->Option bF}{c:aN}{fr aB:List V}{lo lo2:Lo}{h h2:H}{k m:Nat}(hk:runM mm fns k (.code c) fr lo h=.norm aB lo2 h2):runM mm fns (k+1) (.code (.loop c)) fr lo h=runM mm fns k (.code (.loop c)) aB lo2 h2:=by
 rw[dR];show jC (runM mm fns k) (.loop c) (runM mm fns k (.code c) fr lo h)=_;rw[hk,iR]
def iM{mm:eF}{fns:Nat->Option bF}{c:aN}{fr aB:List V}{lo lo2:Lo}{h h2:H}{k:Nat}{j:Jump}(hk:runM mm fns k (.code c) fr lo h=.jump j aB lo2 h2):runM mm fns (k+1) (.code (.loop c)) fr lo h=.jump j aB lo2 h2:=by
 rw[dR];show jC (runM mm fns k) (.loop c) (runM mm fns k (.code c) fr lo h)=_;rw[hk,qP]
def XV(h0:mm 287=none)(hg:GcW mm [a0,a1] R T nk nn nm js nl)(hn:n<=1000000):∀(ps ds:List Nat) (h:H) (fr:List V) (xH:V) (o:List Nat) (ks:List V),
  AI fr mid (.hsl kY 0 n none 1) n ds.length->ds.length+ps.length=n->getCells h kY=some ((ds++ps).map jn)->MV nk nn nm h mid mp [a0,a1] xH o ks->kY≠mid->kY≠mp->¬dw xH kY->kY<h.next->(∀p∈ps,R p)->Bd R T o ->
  ∃N aB h2 zO PZ,(∀m,runM mm Tab.fns (N+m) (.code (.loop Tab.XU)) fr lo h=.jump (.exit 0) aB lo h2)/\AI aB mid (.hsl kY 0 n none 1) n n /\
   MV nk nn nm h2 mid mp [a0,a1] zO (DL T o ps) (ks++PZ)/\(∀(i:Nat) v q,PZ[i]?=some v->(DL T o ps)[ks.length+i]?=some q->KN (nl q) v (js q)) /\
   getCells h2 kY=some ((ds++ps.map λp=>(DL T o ps).idxOf (T p)).map jn)/\h.next<=h2.next /\
   (∀j,j<h.next->j≠mid->j≠mp->j≠kY->¬dw xH j->h2.get j=h.get j)/\(∀j,dw zO j->dw xH j\/h.next<=j)/\¬dw zO kY
 |[],ds,h,fr,xH,o,ks,hI,hl,hc,hM,c1,c2,c3,c4,hR,hB=>by
  simp at hl;subst hl;obtain⟨aB,e1,e2⟩:=Oq (mm:=mm) (lo:=lo) (h:=h) hI;refine⟨501,aB,h,xH,[],λm=>?_,e2,by rw[iY];exact hM,λi v q hi=>by simp at hi,by simpa using hc,aJ _,λj _ _ _ _ _=>rfl,λj hj=>.inl hj,c3⟩;rw[show 501+m=(m+500)+1 by omega];exact iM (e1 m)
 |p::ps,ds,h,fr,xH,o,ks,hI,hl,hc,hM,c1,c2,c3,c4,hR,hB=>by
  simp only[bP]at hl;have hp:=hR p bZ;obtain⟨h1,aok,NM,m1,m2,m3,m4,m5,m6⟩:=amw h0 hg hM hp hB.len;have YX:getCells h1 kY=some ((ds++p::ps).map jn):=by
   have:=m5 kY c4 c1 c2 c3;simp only[getCells,this];exact hc
  obtain⟨mP,e1,e2⟩:=ajz (mm:=mm) (lo:=lo) (h:=h) hI (by omega) hn hc QN m1 YX Ig;have hne:∀j,dw aok j->j≠kY:=λj hj e=>by
   subst e;rcases m6 _ hj with h|h
   .exact c3 h
   .omega
  have hM1:MV nk nn nm (h1.set kY (.cells (((ds++[(H8 T o p).idxOf (T p)])++ps).map jn))) mid mp [a0,a1] aok (H8 T o p) (ks++NM):=by
   obtain⟨q0,q1,q2,q3,q4,q5,q6,q7⟩:=m2;refine⟨q0,by rw[gy c1];exact q1,by rw[FW c2];exact q2,?_,q4,q5,q6,q7⟩;rcases q3 with q3|⟨tid,rfl,z1,z2,z3,z4⟩
   .exact .inl q3
   .exact .inr ⟨tid,rfl,by rw[gy (Ne.symm (hne tid ⟨_,_,_,_,rfl⟩))];exact z1,z2,z3,z4⟩
  obtain⟨N,aB,h2,zO,PZ,r1,r2,r3,r4,r5,r6,r7,r8,r9⟩:=XV h0 hg hn ps (ds++[(H8 T o p).idxOf (T p)]) _ mP aok (H8 T o p) (ks++NM)
   (by rw[bI];exact e2) (by simp only[bI,bP,jS];omega) gG hM1 c1 c2 (λhj=>hne _ hj rfl) (by show kY<h1.next;omega) (λq hq=>hR q (bW _ hq)) (hB.H8 hp)
  have hpre:=NS T ps (H8 T o p);have hix:(DL T (H8 T o p) ps).idxOf (T p)=(H8 T o p).idxOf (T p):=VT hpre (aff T o p);refine⟨N+501,aB,h2,zO,NM++PZ,λm=>?_,r2,by rw[<- fP];exact r3,λi v q hi hq=>?_,?_,by have:h1.next<=h2.next:=r6;omega,λj j1 j2 j3 j4 j5=>?_,λj hj=>?_,r9⟩
  .have hk:=e1 (N+m);rw[show N+501+m=(N+m+500)+1 by omega,mQ (m:=0) hk,show N+m+500=N+(m+500) by omega];exact r1 _
  .rcases dP i NM.length with hi1|hi1
   .rw[jf hi1]at hi;refine m3 i v q hi ?_;obtain⟨w,hw⟩:=hpre;have hlen:ks.length+i<(H8 T o p).length:=by
     have:=m2.kl;rw[bI]at this;omega
    have hq':(DL T (H8 T o p) ps)[ks.length+i]?=some q:=hq;rw[<- hw,jf hlen]at hq';exact hq'
   .rw[rE hi1]at hi;refine r4 _ v q hi ?_;rw[bI,show ks.length+NM.length+(i-NM.length)=ks.length+i by omega];exact hq
  .rw[r5,bD];show some (List.map jn (ds++[(H8 T o p).idxOf (T p)]++_))=some (List.map jn (ds++((DL T (H8 T o p) ps).idxOf (T p)::_)));rw[hix,fP];rfl
  .have j6:¬dw aok j:=λhj=>by
    rcases m6 _ hj with h|h
    .exact j5 h
    .omega
   rw[r7 j (by show j<h1.next;omega) j2 j3 j4 j6,eu _ (Ne.symm j4)];exact m5 j j1 j2 j3 j5
  .rcases r8 j hj with h3|h3
   .exact m6 j h3
   .have h3:h1.next<=j:=h3;exact .inr (by omega)
def Oo{v v2:V}(fl:fr.length=25)(s0:aA fr 0=.bg mid 0)(s1:aA fr 1=v){h1:H}(hv:wo v=false)(hv2:wo v2=false)
  (hcl:∀N,runM mm Tab.fns (N+60) (.call 184 [v]) [] [] h=.val v2 h1) (hlen:lenOf h1 0 v2=some n) :
  ∃aB,(∀N,runM mm Tab.fns (N+200) (.code (Tab.G9).body) fr lo h=jC (runM mm Tab.fns (N+197)) (Tab.s (Tab.r [Tab.m 24 5,Tab.m 4 24]) .ret) (iw 0 (runM mm Tab.fns (N+195) (.code (.loop Tab.XU)) aB lo h1)))/\AI aB mid v2 n 0:=by
 refine⟨?aB,?eq,?ai⟩
 case eq =>
  intro N;rw[Tab.ajy];simp only[Tab.bl];generalize Tab.s (Tab.r [Tab.m 24 5,Tab.m 4 24]) .ret=D;rw[dR (N+194)];generalize aN.loop Tab.XU=L;simp -implicitDefEqProofs only[WW,dX,jX,jK,aZ,aK,aC.ev,aC.evs,bG,LL9,Nat.reduceEqDiff,Nat.reduceLT,fl,s1,hv,hcl,hlen];rfl
 case ai =>
  constructor<;>first|rfl|simp only[LL9,Nat.reduceEqDiff,Nat.reduceLT,fl,s0,jn]
def U6{v2:V}(hI:AI fr mid v2 n n)(hv2:bK v2=false):∀N,wC Tab.G9 (jC (runM mm Tab.fns (N+60)) (Tab.s (Tab.r [Tab.m 24 5,Tab.m 4 24]) .ret) (.norm fr lo h))=.val v2 h:=by
 intro N;obtain⟨fl,s0,s5,s9,s10,s11⟩:=hI;rw[iR];have e:(Tab.G9).results=[(4,false,false,0)]:=rfl;have e2:(Tab.G9).qo=false:=rfl;generalize Tab.G9=F at *;simp -implicitDefEqProofs only[WW,dX,jX,OC,aZ,aK,aC.ev,bG,aF,takeN,bK,finish,resV,dI,mk,LL9,Nat.reduceLT,fl,s5,e,e2];generalize v2=X at *;cases X<;>first|rfl|cases hv2
def aeo(h0:mm 287=none)(h1:mm 190=none)(h2:mm 184=none)(hg:GcW mm [a0,a1] R T nk nn nm js nl){v:V}{ps:List Nat}(hi:IIn h v ps)(hl:ps.length<=1000000)
  (hM:MV nk nn nm h mid mp [a0,a1] xH o ks) (hto:∀j,dw xH j->j<h.next) (hR:∀p∈ps,R p) (hB:Bd R T o) :
  ∃N g zO PZ v2,(∀m,runM mm Tab.fns (N+m) (.call 190 [.bg mid 0,v]) [] [] h=.val v2 g)/\MV nk nn nm g mid mp [a0,a1] zO (DL T o ps) (ks++PZ) /\
   (∀(i:Nat) v q,PZ[i]?=some v->(DL T o ps)[ks.length+i]?=some q->KN (nl q) v (js q))/\IS g h.next v2 (ps.map λp=>(DL T o ps).idxOf (T p))/\h.next<=g.next /\
   (∀j,j<h.next->j≠mid->j≠mp->¬dw xH j->g.get j=h.get j)/\(∀j,dw zO j->dw xH j\/h.next<=j)/\(∀j,dw v2 j->¬dw zO j/\h.next<=j)/\(∀j,dw zO j->j<g.next)/\(v2=.aj<->v=.aj):=by
 obtain⟨v2,g1,c1,c2,c3,c4,c5⟩:=OJ h2 hi hl;obtain⟨_,_,_,q4⟩:=Xv hi;have hb:=λN=>bn (mm:=mm) (n:=N) (f:=190) (a:=[.bg mid 0,v]) (fr:=[]) (lo:=[]) (h:=h) (by simp[ay,h1]) (show Tab.fns 190=some Tab.G9 from rfl) rfl;have hnt:(Tab.G9).nt=25:=rfl;have hM1:MV nk nn nm g1 mid mp [a0,a1] xH o ks:=by
  obtain⟨q0,q1,q2,q3,q4,q5,q6,q7⟩:=hM;refine⟨q0,by simp only[getCells,c4 _ q5];exact q1,by simp only[gK,c4 _ q6];exact q2,?_,q4,by omega,by omega,q7⟩;rcases q3 with q3|⟨tid,rfl,z1,z2,z3,z4⟩
  .exact .inl q3
  .exact .inr ⟨tid,rfl,by simp only[getCells,c4 _ z2];exact z1,by omega,z3,z4⟩
 cases c2 with
 |nil =>
  obtain⟨mP,e1,e2⟩:=Oo (mm:=mm) (fr:=pad 25 [.bg mid 0,v]) (lo:=[]) rfl rfl rfl q4 rfl c1 (F5 _);obtain⟨aB,e3,e4⟩:=Oq (mm:=mm) (lo:=[]) (h:=g1) e2;refine⟨800,g1,xH,[],.aj,λm=>?_,by rw[iY];exact hM1,λi v q hi=>by simp at hi,.nil,c3,λj j1 _ _ _=>c4 j j1,λj hj=>.inl hj,λj hj=>(by obtain⟨_,_,_,_,h⟩:=hj;cases h),λj hj=>(by have:=hto j hj;omega),c5⟩;rw[show 800+m=(m+599)+200+1 by omega,hb,hnt,e1,show m+599+195=(m+293+500)+1 by omega,iM (e3 _),iO];exact U6 e4 rfl _
 |emp =>
  obtain⟨mP,e1,e2⟩:=Oo (mm:=mm) (fr:=pad 25 [.bg mid 0,v]) (lo:=[]) rfl rfl rfl q4 rfl c1 (qQ _ _ _);obtain⟨aB,e3,e4⟩:=Oq (mm:=mm) (lo:=[]) (h:=g1) e2;refine⟨800,g1,xH,[],.list [] true,λm=>?_,by rw[iY];exact hM1,λi v q hi=>by simp at hi,.emp,c3,λj j1 _ _ _=>c4 j j1,λj hj=>.inl hj,λj hj=>(by obtain⟨_,_,_,_,h⟩:=hj;cases h),λj hj=>(by have:=hto j hj;omega),c5⟩;rw[show 800+m=(m+599)+200+1 by omega,hb,hnt,e1,show m+599+195=(m+293+500)+1 by omega,iM (e3 _),iO];exact U6 e4 rfl _
 |own hid hil hgc hne =>
  rename_i id;obtain⟨mP,e1,e2⟩:=Oo (mm:=mm) (fr:=pad 25 [.bg mid 0,v]) (lo:=[]) rfl rfl rfl q4 rfl c1 (yT _ _ _ _ _ _);have d1:id≠mid:=by have:=hM.lm;omega
  have d2:id≠mp:=by have:=hM.lp;omega
  have d3:¬dw xH id:=λhj=>by have:=hto _ hj;omega
  obtain⟨N,aB,g2,zO,PZ,r1,r2,r3,r4,r5,r6,r7,r8,r9⟩:=XV (lo:=[]) h0 hg hl ps [] g1 mP xH o ks (by simpa using e2) (by simp) (by simpa using hgc) hM1 d1 d2 d3 hil hR hB;refine⟨N+800,g2,zO,PZ,.hsl id 0 ps.length none 1,λm=>?_,r3,r4,?_,by omega,λj j1 j2 j3 j4=>?_,λj hj=>?_,λj hj=>?_,λj hj=>?_,c5⟩
  .rw[show N+800+m=(N+m+599)+200+1 by omega,hb,hnt,e1,show N+m+599+195=N+(m+794) by omega,r1,iO];exact U6 r2 rfl _
  .have:(ps.map λp=>(DL T o ps).idxOf (T p)).length=ps.length:=by simp
   rw[<- this];refine .own hid (by omega) (by simpa using r5) (by simpa using hne)
  .have hji:j≠id:=by omega
   rw[r7 j (by omega) j2 j3 hji j4,c4 j j1]
  .rcases r8 j hj with h|h
   .exact .inl h
   .exact .inr (by omega)
  .obtain⟨b,c,d,e,hh⟩:=hj;cases hh;exact⟨r9,hid⟩
  .obtain⟨_,_,_,q3,_,_,_,_⟩:=r3;rcases q3 with⟨_,rfl⟩|⟨tid,rfl,_,z2,_,_⟩
   .obtain⟨_,_,_,_,h⟩:=hj;cases h
   .obtain⟨_,_,_,_,h⟩:=hj;cases h;exact z2
end
end Go.Vx
section
open Go Go.RowKit
namespace Go.Vx.Tab
def plA:aN:=s (r [bt 12 .lss 11 10]) (s (zx 12 0) (s (.block 1 (s (r [m 13 11,ia 14 1 9 11,ld 15 14,m 5 13,m 6 15]) (r [m 16 4,m 17 5,ld 18 1,m 19 6,.dyn (some 20) (t 18) [t 19],ia 21 1 16 17,st 1 21 20]))) (r [bi 22 .add 11 1,m 11 22])))
def am4:(Tab.FB).body=s (r [o 3 (.mv (c .aj))]) (s (r [m 7 0,k 8 184 [t 7],m 4 8]) (s (s (r [m 9 4,ln 10 0 9,ci 11 0]) (bl 0 plA)) (s (r [m 23 4,m 3 23]) .ret))):=rfl
end Go.Vx.Tab
namespace Go.Vx
structure U0 (mm:eF)(fv:V)(K:Nat)(res:Nat->Nat->Nat)(S:H->List Nat->Prop)(ow:H->Nat->Prop):Prop where
 fn:∃g cs,fv=.func g [] cs
 step:∀h acc n,S h acc->acc.length<K->∃h2,(∀N,runM mm Tab.fns (N+100) (.app fv [jn n]) [] [] h=.val (jn (res acc.length n)) h2)/\S h2 (acc++[n])/\h.next<=h2.next/\(∀j,j<h.next->¬ow h j->h2.get j=h.get j)/\(∀j,ow h2 j->ow h j\/h.next<=j)
 lt:∀h acc j,S h acc->ow h j->j<h.next
 mono:∀h g acc,S h acc->h.next<=g.next->(∀j,ow h j->g.get j=h.get j)->S g acc/\∀j,ow g j->ow h j
def MR(res:Nat->Nat->Nat):Nat->List Nat->List Nat
 |_,[]=>[]
 |k,p::ps=>res k p::MR res (k+1) ps
def Rj(res:Nat->Nat->Nat):∀(k:Nat) (ps:List Nat),(MR res k ps).length=ps.length
 |_,[]=>rfl
 |k,p::ps=>by simp only[MR,bP,Rj res]
variable {mm:eF}{h h1:H}{iZ kY n i p r K:Nat}{fr cs cs2 rest:List V}{lo:Lo}{v fv:V}{res:Nat->Nat->Nat}{S:H->List Nat->Prop}{ow:H->Nat->Prop}
structure PI1 (fr:List V)(iZ:Nat)(v:V)(n i:Nat):Prop where
 fl:fr.length=24
 s1:aA fr 1=.bg iZ 0
 s4:aA fr 4=v
 s9:aA fr 9=v
 s10:aA fr 10=jn n
 s11:aA fr 11=jn i
def am5(hI:PI1 fr iZ (.hsl kY 0 n none 1) n i)(hi:i<n)(hn:n<=1000000)(hc:getCells h kY=some cs)(hs:skip i cs=jn p::rest)(hb:getCells h iZ=some [fv])(hfv:wo fv=false)(hm:∀N,runM mm Tab.fns (N+100) (.app fv [jn p]) [] [] h=.val (jn r) h1)
  (hc1:getCells h1 kY=some cs) (hsp:splice i cs [jn r]=some cs2) :
  ∃aB,(∀N,runM mm Tab.fns (N+500) (.code Tab.plA) fr lo h=.norm aB lo (h1.set kY (.cells cs2)))/\PI1 aB iZ (.hsl kY 0 n none 1) n (i+1):=by
 obtain⟨fl,s1,s4,s9,s10,s11⟩:=hI;have hbl:Nat.blt i n=true:=nP hi;have hbe:Nat.ble (i+1) n=true:=dO (by omega);have hw:Nat.blt (i+1) 9223372036854775808=true:=nP (by omega);have hw2:Nat.ble i 9223372036854775806=true:=dO (by omega);have hk:=λt=>PX (t:=t) hfv;unfold jn at *;refine⟨?aB,?eq,?ai⟩
 case eq =>
  intro N;simp -implicitDefEqProofs only[Tab.plA,WW,aS,aZ,aK,aC.ev,aC.evs,bG,aF,bH,skip,bf,Nat.beq,Nat.blt,Nat.ble,cO,dD,mV,eH,iK,eqK,OR.eU,LL9,Nat.reduceEqDiff,Nat.reduceLT,Nat.beq,fl,s1,s4,s9,s10,s11,hbe,hw2,hc,hs,hb,hm,hc1,hsp,Nat.mul_one];rfl
 case ai =>
  constructor<;>first|rfl|(simp only[LL9,Nat.reduceEqDiff,Nat.reduceLT,fl,s1,s4,s9,s10,jn];done)
def aag(hI:PI1 fr iZ v n n):∃aB,(∀N,runM mm Tab.fns (N+500) (.code Tab.plA) fr lo h=.jump (.exit 0) aB lo h)/\PI1 aB iZ v n n:=by
 obtain⟨fl,s1,s4,s9,s10,s11⟩:=hI;have hb:Nat.ble (n+1) n=false:=tu (by omega);unfold jn at *;refine⟨?aB,?eq,?ai⟩
 case eq =>
  intro N;simp -implicitDefEqProofs only[Tab.plA,WW,aS,aZ,aK,aC.ev,bG,Nat.blt,cO,dD,eH,eqK,OR.eU,LL9,Nat.reduceLT,fl,s10,s11,hb];rfl
 case ai =>
  constructor<;>first|rfl|(simp only[LL9,Nat.reduceEqDiff,fl,s1,s4,s9,s10,s11,jn];done)
def ail{v2:V}(fl:fr.length=24)(s0:aA fr 0=v)(s1:aA fr 1=.bg iZ 0){h1:H}(hv:wo v=false)(hv2:wo v2=false)
  (hcl:∀N,runM mm Tab.fns (N+60) (.call 184 [v]) [] [] h=.val v2 h1) (hlen:lenOf h1 0 v2=some n) :
  ∃aB,(∀N,runM mm Tab.fns (N+200) (.code (Tab.FB).body) fr lo h=jC (runM mm Tab.fns (N+197)) (Tab.s (Tab.r [Tab.m 23 4,Tab.m 3 23]) .ret) (iw 0 (runM mm Tab.fns (N+195) (.code (.loop Tab.plA)) aB lo h1)))/\PI1 aB iZ v2 n 0:=by
 refine⟨?aB,?eq,?ai⟩
 case eq =>
  intro N;rw[Tab.am4];simp only[Tab.bl];generalize Tab.s (Tab.r [Tab.m 23 4,Tab.m 3 23]) .ret=D;rw[dR (N+194)];generalize aN.loop Tab.plA=L;simp -implicitDefEqProofs only[WW,dX,jX,jK,aZ,aK,aC.ev,aC.evs,bG,LL9,Nat.reduceEqDiff,Nat.reduceLT,fl,s0,hv,hcl,hlen];rfl
 case ai =>
  constructor<;>first|rfl|(simp only[LL9,Nat.reduceEqDiff,Nat.reduceLT,fl,s1,jn];done)
def asa{v2 v3:V}{h3:H}(hI:PI1 fr iZ v2 n n)(hv2:bK v2=false)(hf:qo v2 h=(v3,h3)):∀N,wC Tab.FB (jC (runM mm Tab.fns (N+60)) (Tab.s (Tab.r [Tab.m 23 4,Tab.m 3 23]) .ret) (.norm fr lo h))=.val v3 h3:=by
 intro N;obtain⟨fl,s1,s4,s9,s10,s11⟩:=hI;rw[iR];have e:(Tab.FB).results=[(3,false,false,0)]:=rfl;have e2:(Tab.FB).qo=true:=rfl;generalize Tab.FB=F at *;simp -implicitDefEqProofs only[WW,dX,jX,OC,aZ,aK,aC.ev,bG,aF,takeN,bK,finish,resV,dI,mk,LL9,Nat.reduceLT,fl,s4,e,e2];generalize v2=X at *;cases X<;>first|(simp only[cond_false,hf];done)|cases hv2
def wR:∀(N:Nat) (vs:List V) (h:H),aW vs=true->dF N vs h=(vs,h)
 |0,vs,h,_=>by simp[dF]
 |N+1,[],h,_=>by simp[dF]
 |N+1,v::vs,h,hf=>by
  simp only[aW,ah]at hf;have ih:=wR N vs h hf.2;cases v<;>simp only[dF,ih,kQ]<;>try (first|(cases hf.1;done)|rfl)
  .have h1:=wR N _ h (show aW _=true from hf.1);rw[h1,ih]
  .have h1:=wR N _ h (show aW _=true from hf.1);rw[h1,ih]
def OG:∀js:List Nat,chunk 1 js.length (js.map jn)=some (js.map jn)
 |[]=>rfl
 |j::js=>by simp only[bP,bD,chunk,takeN,skip,OG js,elemOf,jn]
def FV:∀js:List Nat,aW (js.map jn)=true
 |[]=>rfl
 |j::js=>by simp only[bD,aW,FV js,jn,aO,aU]
def aV(nil:Bool)(js:List Nat):V:=bif nil then .aj else bif js.isEmpty then .list [] true else .list (js.map jn) false
def eV(nil:Bool)(js:List Nat):V:=bif nil then .aj else .list (js.map jn) false
def avJ{h:H}{lo:Nat}{v:V}{js:List Nat}{nil:Bool}(hi:IS h lo v js)(hn:v=.aj->nil=true)(hn2:nil=true->v=.aj):∃g,qo v h=(aV nil js,g)/\g.next=h.next/\(∀j,j<lo->g.get j=h.get j)/\∀j,¬dw v j->g.get j=h.get j:=by
 cases hi with
 |nil=>exact⟨h,by rw[hn rfl];simp[qo,dF,kQ,aV],rfl,λ_ _=>rfl,λ_ _=>rfl⟩
 |emp =>
  have:nil=false:=by cases nil<;>first|rfl|(have:=hn2 rfl;cases this)
  subst this;exact⟨h,by simp[qo,dF,kQ,aV],rfl,λ_ _=>rfl,λ_ _=>rfl⟩
 |own h1 h2 h3 h4 =>
  rename_i id;have:nil=false:=by cases nil<;>first|rfl|(have:=hn2 rfl;cases this)
  subst this;have he:js.isEmpty=false:=by cases js<;>first|(exact absurd rfl h4)|rfl
  refine⟨h.del id,?_,rfl,λj hj=>kE (by omega),λj hj=>kE (λe=>hj ⟨_,_,_,_,by rw[e]⟩)⟩;have hg:=alf h3;simp only[qo,dF,hg,skip,OG,wR _ _ _ (FV js),kQ,aV,he,cond_false]
def aah(hC:U0 mm fv K res S ow)(hn:n<=1000000):∀(ps ds acc:List Nat) (h:H) (fr:List V),
  PI1 fr iZ (.hsl kY 0 n none 1) n ds.length->ds.length+ps.length=n->getCells h kY=some ((ds++ps).map jn)->getCells h iZ=some [fv]->S h acc->acc.length+ps.length<=K->kY≠iZ->¬ow h kY->¬ow h iZ->kY<h.next->iZ<h.next ->
  ∃N aB h2,(∀m,runM mm Tab.fns (N+m) (.code (.loop Tab.plA)) fr lo h=.jump (.exit 0) aB lo h2)/\PI1 aB iZ (.hsl kY 0 n none 1) n n/\S h2 (acc++ps) /\
   getCells h2 kY=some ((ds++MR res acc.length ps).map jn)/\h.next<=h2.next/\(∀j,j<h.next->j≠kY->¬ow h j->h2.get j=h.get j)/\(∀j,ow h2 j->ow h j\/h.next<=j)/\¬ow h2 kY
 |[],ds,acc,h,fr,hI,hl,hc,hb,hS,hK,c1,c2,c3,c4,c5=>by
  simp at hl;subst hl;obtain⟨aB,e1,e2⟩:=aag (mm:=mm) (lo:=lo) (h:=h) hI;refine⟨501,aB,h,λm=>?_,e2,by rw[iY];exact hS,by simpa[MR]using hc,aJ _,λj _ _ _=>rfl,λj hj=>.inl hj,c2⟩;rw[show 501+m=(m+500)+1 by omega];exact iM (e1 m)
 |p::ps,ds,acc,h,fr,hI,hl,hc,hb,hS,hK,c1,c2,c3,c4,c5=>by
  simp only[bP]at hl hK;obtain⟨h1,m1,m2,m3,m4,m5⟩:=hC.step h acc p hS (by omega);obtain⟨gf,cs0,hfn⟩:=hC.fn;have YX:getCells h1 kY=some ((ds++p::ps).map jn):=by simp only[getCells,m4 kY c4 c2];exact hc
  obtain⟨mP,e1,e2⟩:=am5 (mm:=mm) (lo:=lo) (h:=h) hI (by omega) hn hc QN hb (by rw[hfn];rfl) m1 YX Ig;have hno:∀j,j<h.next->¬ow h j->¬ow h1 j:=λj j1 j2 hj=>by
   rcases m5 j hj with hh|hh
   .exact j2 hh
   .omega
  obtain⟨hS1,hS2⟩:=hC.mono h1 (h1.set kY (.cells (((ds++[res acc.length p])++ps).map jn))) _ m2 (aJ _) (λj hj=>eu _ (λe=>by subst e;exact hno kY c4 c2 hj));obtain⟨N,aB,h2,r1,r2,r3,r4,r5,r6,r7,r8⟩:=aah hC hn ps (ds++[res acc.length p]) (acc++[p]) _ mP (by rw[bI];exact e2) (by simp only[bI,bP,jS];omega) gG
   (by rw[gy c1];simp only[getCells,m4 iZ c5 c3];exact hb) hS1 (by simp only[bI,bP,jS];omega) c1 (λhj=>hno kY c4 c2 (hS2 _ hj)) (λhj=>hno iZ c5 c3 (hS2 _ hj)) (by show kY<h1.next;omega) (by show iZ<h1.next;omega)
  have hn1:h1.next<=h2.next:=r5;refine⟨N+501,aB,h2,λm=>?_,r2,by simpa using r3,?_,by omega,λj j1 j2 j3=>?_,λj hj=>?_,r8⟩
  .have hk:=e1 (N+m);rw[show N+501+m=(N+m+500)+1 by omega,mQ (m:=0) hk,show N+m+500=N+(m+500) by omega];exact r1 _
  .rw[r4,bI,fP];rfl
  .rw[r6 j (by show j<h1.next;omega) j2 (λhj=>hno j j1 j3 (hS2 _ hj)),eu _ (Ne.symm j2)];exact m4 j j1 j3
  .rcases r7 j hj with hh|hh
   .exact m5 j (hS2 _ hh)
   .have hh:h1.next<=j:=hh;exact .inr (by omega)
def atY(nil:Bool)(ps:List Nat)(h:H)(hn:nil=true->ps=[]):IIn h (eV nil ps) ps:=by
 cases nil with
 |true=>exact .inl ⟨rfl,hn rfl⟩
 |false=>exact .inr (.inl ⟨false,rfl⟩)
def WV(hC:U0 mm fv K res S ow)(h1:mm 183=none)(h2:mm 184=none){nil:Bool}{ps acc:List Nat}(hnl:nil=true->ps=[])(hl:ps.length<=1000000)(hb:getCells h iZ=some [fv])(hS:S h acc)(hK:acc.length+ps.length<=K)(hob:¬ow h iZ)(hbl:iZ<h.next) :
  ∃N g,(∀m,runM mm Tab.fns (N+m) (.call 183 [eV nil ps,.bg iZ 0]) [] [] h=.val (aV nil (MR res acc.length ps)) g)/\S g (acc++ps)/\h.next<=g.next/\(∀j,j<h.next->¬ow h j->g.get j=h.get j)/\(∀j,ow g j->ow h j\/h.next<=j):=by
 obtain⟨v2,g1,c1,c2,c3,c4,c5⟩:=OJ h2 (atY nil ps h hnl) hl;have hev:eV nil ps=.aj<->nil=true:=by cases nil<;>simp[eV]
 rw[hev]at c5;obtain⟨_,_,_,q4⟩:=Xv (atY nil ps h hnl);have hb':=λN=>bn (mm:=mm) (n:=N) (f:=183) (a:=[eV nil ps,.bg iZ 0]) (fr:=[]) (lo:=[]) (h:=h) (by simp[ay,h1]) (show Tab.fns 183=some Tab.FB from rfl) rfl;have hnt:(Tab.FB).nt=24:=rfl;obtain⟨hS1,hS2⟩:=hC.mono h g1 acc hS c3 (λj hj=>c4 j (hC.lt h acc j hS hj));have c5a:=c5.1;have c5b:=c5.2;have aCG:bK v2=false:=by cases c2<;>rfl
 have fin:∀{N:Nat} {mP aB:List V} {g2:H},(∀m,runM mm Tab.fns (m+200) (.code (Tab.FB).body) (pad 24 [eV nil ps,.bg iZ 0]) [] h=jC (runM mm Tab.fns (m+197)) (Tab.s (Tab.r [Tab.m 23 4,Tab.m 3 23]) .ret) (iw 0 (runM mm Tab.fns (m+195) (.code (.loop Tab.plA)) mP [] g1))) ->
   (∀m,runM mm Tab.fns (N+m) (.code (.loop Tab.plA)) mP [] g1=.jump (.exit 0) aB [] g2)->PI1 aB iZ v2 ps.length ps.length->IS g2 h.next v2 (MR res acc.length ps)->S g2 (acc++ps)->g1.next<=g2.next->(∀j,j<h.next->¬ow h j->g2.get j=h.get j)->(∀j,ow g2 j->ow h j\/h.next<=j)->(∀j,dw v2 j->¬ow g2 j) ->
   ∃N g,(∀m,runM mm Tab.fns (N+m) (.call 183 [eV nil ps,.bg iZ 0]) [] [] h=.val (aV nil (MR res acc.length ps)) g)/\S g (acc++ps)/\h.next<=g.next/\(∀j,j<h.next->¬ow h j->g.get j=h.get j)/\(∀j,ow g j->ow h j\/h.next<=j):=by
  intro N mP aB g2 e1 r1 r2 r3 r4 r5 r6 r7 r8;obtain⟨g3,f1,f2,f3,f4⟩:=avJ r3 c5a c5b;obtain⟨hS3,hS4⟩:=hC.mono g2 g3 _ r4 (by omega) (λj hj=>f4 j (λhh=>r8 j hh hj));refine⟨N+800,g3,λm=>?_,hS3,by omega,λj j1 j2=>by rw[f3 j j1];exact r6 j j1 j2,λj hj=>r7 j (hS4 _ hj)⟩;rw[show N+800+m=(N+m+599)+200+1 by omega,hb',hnt,e1,show N+m+599+195=N+(m+794) by omega,r1,iO];exact asa r2 aCG f1 _
 have hown:∀j,dw v2 j->¬ow g1 j:=λj hj hh=>by
  have h5:=hC.lt h acc j hS (hS2 j hh);have h6:h.next<=j:=by
   obtain⟨_,_,_,_,hh⟩:=hj;cases c2 with
   |nil=>cases hh
   |emp=>cases hh
   |own a b c d=>cases hh;exact a
  omega
 have aCH:wo v2=false:=by cases c2<;>rfl
 have hlen2:lenOf g1 0 v2=some ps.length:=by
  cases c2 with
  |nil=>rfl
  |emp=>rfl
  |own a b c d=>rfl
 obtain⟨mP,e1,e2⟩:=ail (mm:=mm) (fr:=pad 24 [eV nil ps,.bg iZ 0]) (lo:=[]) (iZ:=iZ) rfl rfl rfl q4 aCH c1 hlen2;by_cases hps:ps=[]
 .subst hps;obtain⟨aB,e3,e4⟩:=aag (mm:=mm) (lo:=[]) (h:=g1) e2;exact fin (N:=501) e1 (λm=>by rw[show 501+m=(m+500)+1 by omega];exact iM (e3 m)) e4 c2 (by rw[iY];exact hS1) (aJ _) (λj j1 _=>c4 j j1) (λj hj=>.inl (hS2 j hj)) hown
 .cases c2 with
  |nil=>exact absurd rfl hps
  |emp=>exact absurd rfl hps
  |own hid hil hgc hne =>
   rename_i id;have d1:id≠iZ:=by omega
   have d2:¬ow g1 id:=hown id ⟨_,_,_,_,rfl⟩;have d3:¬ow g1 iZ:=λhh=>hob (hS2 _ hh);obtain⟨N,aB,g2,r1,r2,r3,r4,r5,r6,r7,r8⟩:=aah (lo:=[]) hC hl ps [] acc g1 mP (by simpa using e2) (by simp) (by simpa using hgc) (by simp only[getCells,c4 iZ hbl];exact hb) hS1 hK d1 d2 d3 hil (by omega);refine fin e1 r1 r2 ?_ r3 r5 (λj j1 j2=>?_) (λj hj=>?_) (λj hj hh=>?_)
   .have:=Rj res acc.length ps;rw[<- this];refine .own hid (by omega) (by simpa using r4) (λe=>hps (by rw[e]at this;exact Bc.1 this.symm))
   .rw[r6 j (by omega) (by omega) (λhh=>j2 (hS2 _ hh)),c4 j j1]
   .rcases r7 j hj with hh|hh
    .exact .inl (hS2 _ hh)
    .exact .inr (by omega)
   .obtain⟨_,_,_,_,hh2⟩:=hj;cases hh2;exact r8 hh
end Go.Vx
end
section
open Go Go.RowKit
namespace Go.Vx.Tab
def frC:aN:=s (r [bt 61 .lss 60 59]) (s (zx 61 0) (s (.block 1 (s (r [m 62 60,ia 63 6 58 60,la 64 6 63,o 7 (.alloc [j 0,j 0,j 0,S [],j 0,.aj]),m 6 62,st 6 7 64]) (s (s (r [fa 65 0 7,ld 66 65,ei 67 0 66 1,m 68 67,g0 68 69 (f 0 7),g0 68 70 (l 69),g0 68 71 (.eq false 0 (t 70) (i 2)),ka 72 68 71]) (z 72 (r [ld 73 3,fa 74 1 7,ld 75 74,.dyn (some 76) (t 73) [t 75],fa 77 1 7,st 1 77 76]) .skip)) (s (r [m 78 5,fa 79 5 7,ld 80 79,.dyn (some 81) (t 78) [t 80],fa 82 5 7,st 1 82 81]) (r [fa 83 1 2,fa 84 3 83,ld 85 84,m 86 6,la 87 6 7,ia 88 6 85 86,st 6 88 87]))))) (r [bi 89 .add 60 1,m 60 89])))
def koC:aN:=s (r [bt 98 .lss 97 96]) (s (zx 98 2) (s (.block 3 (s (r [m 99 97,ia 100 2 95 97,la 101 2 100,o 9 (.alloc [j 0,j 0]),m 8 99,st 2 9 101]) (s (r [fa 102 0 9,ld 103 102,bi 104 .leq 103 4,m 105 104,g0 105 106 (f 0 9),g0 105 107 (l 106),g0 105 108 (.eq false 0 (t 107) (i 8)),ka 109 105 108]) (z 109 (.draw [fa 110 5 2,ld 111 110,m 112 8,ld 113 3,fa 114 1 9,ld 115 114,.dyn (some 116) (t 113) [t 115],.chk none 111 (l 110),ia 117 2 111 112,fa 118 1 117,st 1 118 116]) .skip)))) (r [bi 119 .add 97 1,m 97 119])))
def leC:aN:=s (r [bt 131 .lss 130 129]) (s (zx 131 4) (s (.block 5 (s (r [m 132 130,ia 133 1 128 130,ld 134 133,m 10 132,m 11 134]) (s (r [m 135 11,k 136 188 [t 135],m 11 136]) (s (s (r [m 137 11,ln 138 0 137,ci 139 0]) (bl 6 (s (r [bt 140 .lss 139 138]) (s (zx 140 6) (s (.block 7 (s (r [m 141 139,m 12 141]) (.draw [m 142 11,m 143 12,ld 144 3,m 145 11,m 146 12,ia 147 2 145 146,fa 148 1 147,ld 149 148,.dyn (some 150) (t 144) [t 149],ia 151 2 142 143,fa 152 1 151,st 1 152 150]))) (r [bi 153 .add 139 1,m 139 153])))))) (r [fa 154 6 2,fa 155 1 154,ld 156 155,m 157 10,m 158 11,ia 159 1 156 157,st 1 159 158]))))) (r [bi 160 .add 130 1,m 130 160])))
end Go.Vx.Tab
namespace Go.Vx
variable {mm:eF}{h h1 h2:H}{iZ jO n i r k at_:Nat}{fr cs cs2 rest:List V}{lo:Lo}{v fv ev Yx:V}{op n2:Int}{nmm:List Nat}{x0 x1 x2 x3 x4 x5 x6 x7 x8 x9 x10:V}
structure Vl (z:V):Prop where
 l:wo z=false
 v:isVal z=true
 c:z.cells=[z]
 o:qW z=true
def Vl.kl{z:V}(hz:Vl z)(t:Nat):oG t z=z:=PX hz.l
structure FI (fr:List V)(lo:Lo)(iZ:Nat)(fv:V)(v:V)(n i:Nat)(xs:List V):Prop where
 fl:fr.length=162
 s2:aA fr 2=.aY 2 0
 s3:aA fr 3=.bg iZ 0
 s4:aA fr 4=.aY 4 0
 s5:aA fr 5=.func (.func 183) [] [.bg iZ 0]
 s58:aA fr 58=v
 s59:aA fr 59=jn n
 s60:aA fr 60=jn i
 l2:dA lo 2=some xs
 l4:∃a0 a1 a2 a3 a4 a5 a6 a7 a8 a9 a10,dA lo 4=some [a0,a1,a2,a3,a4,a5,a6,a7,a8,a9,a10]
def ak4(hI:FI fr lo iZ fv (.hsl jO 0 n none 6) n i [x0,x1,x2,x3,.hsl jO 0 n none 6,x5,x6,x7,x8,x9,x10])(hi:i<n)(hn:n<=1000000)(hc:getCells h jO=some cs)(hs:skip (i*6) cs=jn 1::jn at_::.int .i64 op::.str nmm::.int .i64 n2::ev::rest)
  (hb:getCells h iZ=some [fv]) (hfv:Vl fv) (hev:Vl ev) (hev2:Vl Yx) (hm:∀N,runM mm Tab.fns (N+100) (.app fv [jn at_]) [] [] h=.val (jn r) h1)
  {N0:Nat} (hp:∀m,runM mm Tab.fns (N0+m) (.call 183 [ev,.bg iZ 0]) [] [] h1=.val Yx h2) (hc2:getCells h2 jO=some cs) (hsp:splice (i*6) cs [jn 1,jn r,.int .i64 op,.str nmm,.int .i64 n2,Yx]=some cs2) :
  ∃aB lo2,(∀m,runM mm Tab.fns (N0+m+500) (.code Tab.frC) fr lo h=.norm aB lo2 (h2.set jO (.cells cs2)))/\FI aB lo2 iZ fv (.hsl jO 0 n none 6) n (i+1) [x0,x1,x2,x3,.hsl jO 0 n none 6,x5,x6,x7,x8,x9,x10]:=by
 obtain⟨fl,s2,s3,s4,s5,s58,s59,s60,l2,a0,a1,a2,a3,a4,a5,a6,a7,a8,a9,a10,l4⟩:=hI;have hbl:Nat.blt i n=true:=nP hi;have hbe:Nat.ble (i+1) n=true:=dO (by omega);have hw:Nat.blt (i+1) 9223372036854775808=true:=nP (by omega);have hw2:Nat.ble i 9223372036854775806=true:=dO (by omega);have k1:=hfv.kl;have k2:=hev.kl;have k3:=hev2.kl;obtain⟨f1,f2,f3,f4⟩:=hfv;obtain⟨e1,e2,e3,e4⟩:=hev;obtain⟨g1,g2,g3,g4⟩:=hev2;unfold jn at *;refine⟨?aB,?lo2,?eq,?ai⟩
 case eq =>
  intro m;have hp2:=λk=>(show runM mm Tab.fns (N0+m+k) (.call 183 [ev,.bg iZ 0]) [] [] h1=.val Yx h2 by rw[gq];exact hp _);generalize N0+m=M at *;simp -implicitDefEqProofs only[Tab.frC,WW,aS,aZ,aK,aC.ev,aC.evs,bG,aF,bH,splice,bC,takeN,skip,bf,Nat.reduceAdd,Nat.beq,Nat.blt,Nat.ble,cO,dD,mV,eH,iK,eqK,nH,fU,gX,jU,OR.eU,LL9,Nat.reduceEqDiff,Nat.reduceLT,Nat.beq,fl,s2,s3,s5,s58,s59,s60,l2,hbe,hw2,hc,hs,hb,e1,e4,g2,g3,g4,hm,hp2,hc2,hsp];rfl
 case ai =>
  constructor<;>try (simp only[LL9,Nat.reduceEqDiff,Nat.reduceLT,Nat.beq,fl,s2,s3,s4,s5,s58,s59,l2,jn];done)
  exact⟨a0,a1,a2,a3,a4,a5,a6,a7,a8,a9,a10,by simp only[LL9,Nat.reduceEqDiff,l4]⟩
def ak5(hI:FI fr lo iZ fv (.hsl jO 0 n none 6) n i [x0,x1,x2,x3,.hsl jO 0 n none 6,x5,x6,x7,x8,x9,x10])(hi:i<n)(hn:n<=1000000)(hc:getCells h jO=some cs)(hs:skip (i*6) cs=jn 2::jn at_::.int .i64 op::.str nmm::.int .i64 n2::ev::rest)
  (hb:getCells h iZ=some [fv]) (hfv:Vl fv) (hev:Vl ev) (hev2:Vl Yx) (hm:∀N,runM mm Tab.fns (N+100) (.app fv [jn at_]) [] [] h=.val (jn r) h1)
  {N0:Nat} (hp:∀m,runM mm Tab.fns (N0+m) (.call 183 [ev,.bg iZ 0]) [] [] h1=.val Yx h2) (hc2:getCells h2 jO=some cs) (hsp:splice (i*6) cs [jn 2,jn r,.int .i64 op,.str nmm,.int .i64 n2,Yx]=some cs2) :
  ∃aB lo2,(∀m,runM mm Tab.fns (N0+m+500) (.code Tab.frC) fr lo h=.norm aB lo2 (h2.set jO (.cells cs2)))/\FI aB lo2 iZ fv (.hsl jO 0 n none 6) n (i+1) [x0,x1,x2,x3,.hsl jO 0 n none 6,x5,x6,x7,x8,x9,x10]:=by
 obtain⟨fl,s2,s3,s4,s5,s58,s59,s60,l2,a0,a1,a2,a3,a4,a5,a6,a7,a8,a9,a10,l4⟩:=hI;have hbl:Nat.blt i n=true:=nP hi;have hbe:Nat.ble (i+1) n=true:=dO (by omega);have hw:Nat.blt (i+1) 9223372036854775808=true:=nP (by omega);have hw2:Nat.ble i 9223372036854775806=true:=dO (by omega);have k1:=hfv.kl;have k2:=hev.kl;have k3:=hev2.kl;obtain⟨f1,f2,f3,f4⟩:=hfv;obtain⟨e1,e2,e3,e4⟩:=hev;obtain⟨g1,g2,g3,g4⟩:=hev2;unfold jn at *;refine⟨?aB,?lo2,?eq,?ai⟩
 case eq =>
  intro m;have hp2:=λk=>(show runM mm Tab.fns (N0+m+k) (.call 183 [ev,.bg iZ 0]) [] [] h1=.val Yx h2 by rw[gq];exact hp _);generalize N0+m=M at *;simp -implicitDefEqProofs only[Tab.frC,WW,aS,aZ,aK,aC.ev,aC.evs,bG,aF,bH,splice,bC,takeN,skip,bf,Nat.reduceAdd,Nat.beq,Nat.blt,Nat.ble,cO,dD,mV,eH,iK,eqK,nH,fU,gX,jU,OR.eU,LL9,Nat.reduceEqDiff,Nat.reduceLT,Nat.beq,fl,s2,s3,s5,s58,s59,s60,l2,hbe,hw2,hc,hs,hb,e1,e4,g2,g3,g4,hm,hp2,hc2,hsp];rfl
 case ai =>
  constructor<;>try (simp only[LL9,Nat.reduceEqDiff,Nat.reduceLT,Nat.beq,fl,s2,s3,s4,s5,s58,s59,l2,jn];done)
  exact⟨a0,a1,a2,a3,a4,a5,a6,a7,a8,a9,a10,by simp only[LL9,Nat.reduceEqDiff,l4]⟩
def ak3(hI:FI fr lo iZ fv (.hsl jO 0 n none 6) n i [x0,x1,x2,x3,.hsl jO 0 n none 6,x5,x6,x7,x8,x9,x10])(hi:i<n)(hn:n<=1000000)(hc:getCells h jO=some cs)(hs:skip (i*6) cs=jn k::jn at_::.int .i64 op::.str nmm::.int .i64 n2::ev::rest)(hk1:k≠1)(hk2:k≠2)
  (hev:Vl ev) (hev2:Vl Yx)
  {N0:Nat} (hp:∀m,runM mm Tab.fns (N0+m) (.call 183 [ev,.bg iZ 0]) [] [] h=.val Yx h2) (hc2:getCells h2 jO=some cs) (hsp:splice (i*6) cs [jn k,jn at_,.int .i64 op,.str nmm,.int .i64 n2,Yx]=some cs2) :
  ∃aB lo2,(∀m,runM mm Tab.fns (N0+m+500) (.code Tab.frC) fr lo h=.norm aB lo2 (h2.set jO (.cells cs2)))/\FI aB lo2 iZ fv (.hsl jO 0 n none 6) n (i+1) [x0,x1,x2,x3,.hsl jO 0 n none 6,x5,x6,x7,x8,x9,x10]:=by
 obtain⟨fl,s2,s3,s4,s5,s58,s59,s60,l2,a0,a1,a2,a3,a4,a5,a6,a7,a8,a9,a10,l4⟩:=hI;have hbl:Nat.blt i n=true:=nP hi;have hbe:Nat.ble (i+1) n=true:=dO (by omega);have hw:Nat.blt (i+1) 9223372036854775808=true:=nP (by omega);have hw2:Nat.ble i 9223372036854775806=true:=dO (by omega);have q1:Nat.beq k 1=false:=iH hk1;have q2:Nat.beq k 2=false:=iH hk2;have k2:=hev.kl;have k3:=hev2.kl;obtain⟨e1,e2,e3,e4⟩:=hev;obtain⟨g1,g2,g3,g4⟩:=hev2;unfold jn at *;refine⟨?aB,?lo2,?eq,?ai⟩
 case eq =>
  intro m;have hp2:=λk=>(show runM mm Tab.fns (N0+m+k) (.call 183 [ev,.bg iZ 0]) [] [] h=.val Yx h2 by rw[gq];exact hp _);generalize N0+m=M at *;simp -implicitDefEqProofs only[Tab.frC,WW,aS,aZ,aK,aC.ev,aC.evs,bG,aF,bH,splice,bC,takeN,skip,bf,Nat.reduceAdd,Nat.beq,Nat.blt,Nat.ble,cO,dD,mV,eH,iK,eqK,nH,fU,gX,jU,OR.eU,LL9,Nat.reduceEqDiff,Nat.reduceLT,Nat.beq,fl,s2,s5,s58,s59,s60,l2,hbe,hw2,hc,hs,q1,q2,e1,e4,g2,g3,g4,hp2,hc2,hsp];rfl
 case ai =>
  constructor<;>try (simp only[LL9,Nat.reduceEqDiff,Nat.reduceLT,Nat.beq,fl,s2,s3,s4,s5,s58,s59,l2,jn];done)
  exact⟨a0,a1,a2,a3,a4,a5,a6,a7,a8,a9,a10,by simp only[LL9,Nat.reduceEqDiff,l4]⟩
def aeK{xs:List V}(hI:FI fr lo iZ fv v n n xs):∃aB,(∀m,runM mm Tab.fns (m+500) (.code Tab.frC) fr lo h=.jump (.exit 0) aB lo h)/\FI aB lo iZ fv v n n xs:=by
 obtain⟨fl,s2,s3,s4,s5,s58,s59,s60,l2,l4⟩:=hI;have hb:Nat.ble (n+1) n=false:=tu (by omega);unfold jn at *;refine⟨?aB,?eq,?ai⟩
 case eq =>
  intro m;simp -implicitDefEqProofs only[Tab.frC,WW,aS,aZ,aK,aC.ev,bG,Nat.blt,cO,dD,eH,eqK,OR.eU,LL9,Nat.reduceLT,fl,s59,s60,hb];rfl
 case ai =>
  constructor<;>try (simp only[LL9,Nat.reduceEqDiff,fl,s2,s3,s4,s5,s58,s59,s60,l2,jn];done)
  exact l4
structure KI (fr:List V)(lo:Lo)(iZ:Nat)(fv:V)(v:V)(n i:Nat)(xs:List V):Prop where
 fl:fr.length=162
 s2:aA fr 2=.aY 2 0
 s3:aA fr 3=.bg iZ 0
 s4:aA fr 4=.aY 4 0
 Xj:aA fr 95=v
 s96:aA fr 96=jn n
 s97:aA fr 97=jn i
 l2:dA lo 2=some xs
 l4:∃a0 a1 a2 a3 a4 a5 a6 a7 a8 a9 a10,dA lo 4=some [a0,a1,a2,a3,a4,a5,a6,a7,a8,a9,a10]
def aeF(a b c d:Nat):nT (.hsl a b c none d) (.hsl a b c none d)=true:=by simp[nT,eqO]
def al7(hI:KI fr lo iZ fv (.hsl jO 0 n none 2) n i [x0,x1,x2,x3,x4,.hsl jO 0 n none 2,x6,x7,x8,x9,x10])(hi:i<n)(hn:n<=1000000)(hc:getCells h jO=some cs)(hs:skip (i*2) cs=jn k::jn at_::rest)(hk:k<=4)
  (hb:getCells h iZ=some [fv]) (hfv:Vl fv) (hm:∀N,runM mm Tab.fns (N+100) (.app fv [jn at_]) [] [] h=.val (jn r) h1)
  (hc2:getCells h1 jO=some cs) (hsp:splice (i*2+1) cs [jn r]=some cs2) :
  ∃aB lo2,(∀m,runM mm Tab.fns (m+500) (.code Tab.koC) fr lo h=.norm aB lo2 (h1.set jO (.cells cs2)))/\KI aB lo2 iZ fv (.hsl jO 0 n none 2) n (i+1) [x0,x1,x2,x3,x4,.hsl jO 0 n none 2,x6,x7,x8,x9,x10]:=by
 obtain⟨fl,s2,s3,s4,Xj,s96,s97,l2,a0,a1,a2,a3,a4,a5,a6,a7,a8,a9,a10,l4⟩:=hI;have hbl:Nat.blt i n=true:=nP hi;have hbe:Nat.ble (i+1) n=true:=dO (by omega);have hw:Nat.blt (i+1) 9223372036854775808=true:=nP (by omega);have hw2:Nat.ble i 9223372036854775806=true:=dO (by omega);have hq:Nat.ble 5 k=false:=tu (by omega);have k1:=hfv.kl;obtain⟨f1,f2,f3,f4⟩:=hfv;unfold jn at *;refine⟨?aB,?lo2,?eq,?ai⟩
 case eq =>
  intro m;simp -implicitDefEqProofs only[Tab.koC,WW,aS,aZ,aK,fG,aC.ev,aC.evs,bG,aF,bH,splice,bC,takeN,skip,bf,Nat.reduceAdd,Nat.beq,Nat.blt,Nat.ble,cO,dD,mV,eH,iK,eqK,OR.eU,yg,LL9,Nat.reduceEqDiff,Nat.reduceLT,Nat.beq,fl,s2,s3,Xj,s96,s97,l2,hbe,hw2,hc,hs,hb,hq,hm,hc2,hsp,aeF];rfl
 case ai =>
  constructor<;>try (simp only[LL9,Nat.reduceEqDiff,Nat.reduceLT,Nat.beq,fl,s2,s3,s4,Xj,s96,l2,jn];done)
  exact⟨a0,a1,a2,a3,a4,a5,a6,a7,a8,a9,a10,by simp only[LL9,Nat.reduceEqDiff,l4]⟩
def al8(hI:KI fr lo iZ fv (.hsl jO 0 n none 2) n i [x0,x1,x2,x3,x4,.hsl jO 0 n none 2,x6,x7,x8,x9,x10])(hi:i<n)(hn:n<=1000000)(hc:getCells h jO=some cs)(hs:skip (i*2) cs=jn 8::jn at_::rest)
  (hb:getCells h iZ=some [fv]) (hfv:Vl fv) (hm:∀N,runM mm Tab.fns (N+100) (.app fv [jn at_]) [] [] h=.val (jn r) h1)
  (hc2:getCells h1 jO=some cs) (hsp:splice (i*2+1) cs [jn r]=some cs2) :
  ∃aB lo2,(∀m,runM mm Tab.fns (m+500) (.code Tab.koC) fr lo h=.norm aB lo2 (h1.set jO (.cells cs2)))/\KI aB lo2 iZ fv (.hsl jO 0 n none 2) n (i+1) [x0,x1,x2,x3,x4,.hsl jO 0 n none 2,x6,x7,x8,x9,x10]:=by
 obtain⟨fl,s2,s3,s4,Xj,s96,s97,l2,a0,a1,a2,a3,a4,a5,a6,a7,a8,a9,a10,l4⟩:=hI;have hbl:Nat.blt i n=true:=nP hi;have hbe:Nat.ble (i+1) n=true:=dO (by omega);have hw:Nat.blt (i+1) 9223372036854775808=true:=nP (by omega);have hw2:Nat.ble i 9223372036854775806=true:=dO (by omega);have k1:=hfv.kl;obtain⟨f1,f2,f3,f4⟩:=hfv;unfold jn at *;refine⟨?aB,?lo2,?eq,?ai⟩
 case eq =>
  intro m;simp -implicitDefEqProofs only[Tab.koC,WW,aS,aZ,aK,fG,aC.ev,aC.evs,bG,aF,bH,splice,bC,takeN,skip,bf,Nat.reduceAdd,Nat.beq,Nat.blt,Nat.ble,cO,dD,mV,eH,iK,eqK,nH,fU,gX,jU,OR.eU,yg,LL9,Nat.reduceEqDiff,Nat.reduceLT,Nat.beq,fl,s2,s3,Xj,s96,s97,l2,hbe,hw2,hc,hs,hb,hm,hc2,hsp,aeF];rfl
 case ai =>
  constructor<;>try (simp only[LL9,Nat.reduceEqDiff,Nat.reduceLT,Nat.beq,fl,s2,s3,s4,Xj,s96,l2,jn];done)
  exact⟨a0,a1,a2,a3,a4,a5,a6,a7,a8,a9,a10,by simp only[LL9,Nat.reduceEqDiff,l4]⟩
def al6(hI:KI fr lo iZ fv (.hsl jO 0 n none 2) n i [x0,x1,x2,x3,x4,.hsl jO 0 n none 2,x6,x7,x8,x9,x10])(hi:i<n)(hn:n<=1000000)(hc:getCells h jO=some cs)(hs:skip (i*2) cs=jn k::jn at_::rest)(hk:4<k)(hk8:k≠8) :
  ∃aB lo2,(∀m,runM mm Tab.fns (m+500) (.code Tab.koC) fr lo h=.norm aB lo2 h)/\KI aB lo2 iZ fv (.hsl jO 0 n none 2) n (i+1) [x0,x1,x2,x3,x4,.hsl jO 0 n none 2,x6,x7,x8,x9,x10]:=by
 obtain⟨fl,s2,s3,s4,Xj,s96,s97,l2,a0,a1,a2,a3,a4,a5,a6,a7,a8,a9,a10,l4⟩:=hI;have hbl:Nat.blt i n=true:=nP hi;have hbe:Nat.ble (i+1) n=true:=dO (by omega);have hw:Nat.blt (i+1) 9223372036854775808=true:=nP (by omega);have hw2:Nat.ble i 9223372036854775806=true:=dO (by omega);have hq:Nat.ble 5 k=true:=dO (by omega);have hq8:Nat.beq k 8=false:=iH hk8;unfold jn at *;refine⟨?aB,?lo2,?eq,?ai⟩
 case eq =>
  intro m;simp -implicitDefEqProofs only[Tab.koC,WW,aS,aZ,aK,aC.ev,bG,aF,bH,splice,bC,takeN,skip,bf,Nat.reduceAdd,Nat.beq,Nat.blt,Nat.ble,cO,dD,mV,eH,iK,eqK,nH,fU,gX,jU,OR.eU,LL9,Nat.reduceEqDiff,Nat.reduceLT,Nat.beq,fl,Xj,s96,s97,hbe,hw2,hc,hs,hq,hq8];rfl
 case ai =>
  constructor<;>try (simp only[LL9,Nat.reduceEqDiff,Nat.reduceLT,Nat.beq,fl,s2,s3,s4,Xj,s96,l2,jn];done)
  exact⟨a0,a1,a2,a3,a4,a5,a6,a7,a8,a9,a10,by simp only[LL9,Nat.reduceEqDiff,l4]⟩
def ae6{xs:List V}(hI:KI fr lo iZ fv v n n xs):∃aB,(∀m,runM mm Tab.fns (m+500) (.code Tab.koC) fr lo h=.jump (.exit 2) aB lo h)/\KI aB lo iZ fv v n n xs:=by
 obtain⟨fl,s2,s3,s4,Xj,s96,s97,l2,l4⟩:=hI;have hb:Nat.ble (n+1) n=false:=tu (by omega);unfold jn at *;refine⟨?aB,?eq,?ai⟩
 case eq =>
  intro m;simp -implicitDefEqProofs only[Tab.koC,WW,aS,aZ,aK,aC.ev,bG,Nat.blt,cO,dD,eH,eqK,OR.eU,LL9,Nat.reduceLT,fl,s96,s97,hb];rfl
 case ai =>
  constructor<;>try (simp only[LL9,Nat.reduceEqDiff,fl,s2,s3,s4,Xj,s96,s97,l2,jn];done)
  exact l4
end Go.Vx
end
namespace Go.Vx
section
def Ju{s:Nat}:∀(ds rest:List V),(∀v∈ds,v.cells.length=s)->skip (ds.length*s) (fl (ds++rest))=fl rest
 |[],rest,_=>by simp[skip]
 |d::ds,rest,h=>by
  have h1:=h d bZ;have ih:=Ju ds rest λv hv=>h v (bW _ hv);rw[pX]at ih|-;rw[dZ,fl,bP,show(ds.length+1)*s=d.cells.length+ds.length*s by rw[h1,kW];omega,List.drop_length_add_append];exact ih
def Dv{s:Nat}{v w:V}(hv:v.cells.length=s)(hw:w.cells.length=s):∀(ds rest:List V),(∀v∈ds,v.cells.length=s)->splice (ds.length*s) (fl (ds++v::rest)) w.cells=some (fl (ds++w::rest))
 |[],rest,_=>by
  rw[jS,Nat.zero_mul,ql 0 _ _ (by simp[fl,hv,hw])];simp[fl,hw,<- hv]
 |d::ds,rest,h=>by
  have h1:=h d bZ;have ih:=Dv hv hw ds rest λv hv=>h v (bW _ hv);have hl:ds.length*s+w.cells.length<=(fl (ds++v::rest)).length:=by
   have:∀(ds:List V),(∀v∈ds,v.cells.length=s)->(fl ds).length=ds.length*s:=by
    intro ds
    induction ds with
    |nil=>intro _;simp[fl]
    |cons d ds ih=>intro h;simp only[fl,bI,h d bZ,ih λv hv=>h v (bW _ hv),bP,kW];omega
   rw[Bo,bI,this ds λv hv=>h v (bW _ hv)];simp only[fl,bI];omega
  rw[ql _ _ _ hl]at ih;have hl2:(d::ds).length*s+w.cells.length<=(fl (d::ds++v::rest)).length:=by
   simp only[dZ,fl,bI,bP,h1,kW];omega
  rw[ql _ _ _ hl2];have e1:(d::ds).length*s=d.cells.length+ds.length*s:=by rw[bP,h1,kW];omega
  have e2:(d::ds).length*s+w.cells.length=d.cells.length+(ds.length*s+w.cells.length):=by omega
  rw[e2,e1];simp only[dZ,fl,List.take_length_add_append,List.drop_length_add_append,fP];rw[aG]at ih|-;rw[ih]
structure Ls where
 k:Nat
 at_:Nat
 op:Int
 nm:List Nat
 n:Int
 nil:Bool
 env:List Nat
 hn:nil=true->env=[]
def DX(f:Ls):V:=.agg [jn f.k,jn f.at_,.int .i64 f.op,.str f.nm,.int .i64 f.n,eV f.nil f.env]
def pu(f:Ls):List Nat:=if f.k=1\/f.k=2 then[f.at_]else[]
def VD(f:Ls):List Nat:=pu f++f.env
def hdD(l:List Nat)(d:Nat):Nat:=match l with|x::_=>x|[]=>d
def NH(res:Nat->Nat->Nat)(c:Nat)(f:Ls):V:=.agg [jn f.k,jn (hdD (MR res c (pu f)) f.at_),.int .i64 f.op,.str f.nm,.int .i64 f.n,aV f.nil (MR res (c+(pu f).length) f.env)]
def AA(res:Nat->Nat->Nat):Nat->List Ls->List V
 |_,[]=>[]
 |c,f::fs=>NH res c f::AA res (c+(VD f).length) fs
def wQ:List Ls->List Nat
 |[]=>[]
 |f::fs=>VD f++wQ fs
def OT(b:Bool)(l:List Nat):Vl (eV b l):=by cases b<;>exact⟨rfl,rfl,rfl,rfl⟩
def SN(b:Bool)(l:List Nat):Vl (aV b l):=by
 cases b with
 |true=>exact⟨rfl,rfl,rfl,rfl⟩
 |false=>cases l<;>exact⟨rfl,rfl,rfl,rfl⟩
variable {mm:eF}{iZ jO n K:Nat}{fv:V}{x0 x1 x2 x3 x5 x6 x7 x8 x9 x10:V}{res:Nat->Nat->Nat}{S:H->List Nat->Prop}{ow:H->Nat->Prop}
def U0.vl(hC:U0 mm fv K res S ow):Vl fv:=by
 obtain⟨g,cs,rfl⟩:=hC.fn;exact⟨rfl,rfl,rfl,rfl⟩
def avH(hC:U0 mm fv K res S ow)(h1:mm 183=none)(h2:mm 184=none)(hn:n<=1000000){f:Ls}{ds rest:List V}{acc:List Nat}{h:H}{fr:List V}{lo:Lo}
  (hI:FI fr lo iZ fv (.hsl jO 0 n none 6) n ds.length [x0,x1,x2,x3,.hsl jO 0 n none 6,x5,x6,x7,x8,x9,x10]) (hds:∀v∈ds,v.cells.length=6) (hl:ds.length<n) (hc:getCells h jO=some (fl (ds++DX f::rest))) (hb:getCells h iZ=some [fv]) (hS:S h acc) (hK:acc.length+(VD f).length<=K) (hfe:f.env.length<=1000000)
  (c1:jO≠iZ) (c2:¬ow h jO) (c3:¬ow h iZ) (c4:jO<h.next) (c5:iZ<h.next) :
  ∃N aB lo2 h2,(∀m,runM mm Tab.fns (N+m+500) (.code Tab.frC) fr lo h=.norm aB lo2 h2)/\FI aB lo2 iZ fv (.hsl jO 0 n none 6) n (ds.length+1) [x0,x1,x2,x3,.hsl jO 0 n none 6,x5,x6,x7,x8,x9,x10]/\S h2 (acc++VD f) /\
   getCells h2 jO=some (fl (ds++NH res acc.length f::rest))/\getCells h2 iZ=some [fv]/\h.next<=h2.next/\(∀j,j<h.next->j≠jO->¬ow h j->h2.get j=h.get j)/\(∀j,ow h2 j->ow h j\/h.next<=j)/\¬ow h2 jO/\¬ow h2 iZ:=by
 have hsk:skip (ds.length*6) (fl (ds++DX f::rest))=jn f.k::jn f.at_::.int .i64 f.op::.str f.nm::.int .i64 f.n::eV f.nil f.env::fl rest:=by
  rw[Ju ds _ hds];rfl
 have hsp:=Dv (s:=6) (v:=DX f) (w:=NH res acc.length f) rfl rfl ds rest hds;have fin:∀(h1 h2:H) (apu:List Nat),S h1 apu->apu++f.env=acc++VD f->h.next<=h1.next->(∀j,j<h.next->¬ow h j->h1.get j=h.get j)->(∀j,ow h1 j->ow h j\/h.next<=j) ->
   S h2 (apu++f.env)->h1.next<=h2.next->(∀j,j<h1.next->¬ow h1 j->h2.get j=h1.get j)->(∀j,ow h2 j->ow h1 j\/h1.next<=j) ->
   S (h2.set jO (.cells (fl (ds++NH res acc.length f::rest)))) (acc++VD f)/\getCells (h2.set jO (.cells (fl (ds++NH res acc.length f::rest)))) jO=some (fl (ds++NH res acc.length f::rest))/\getCells (h2.set jO (.cells (fl (ds++NH res acc.length f::rest)))) iZ=some [fv]/\h.next<=(h2.set jO (.cells (fl (ds++NH res acc.length f::rest)))).next /\
   (∀j,j<h.next->j≠jO->¬ow h j->(h2.set jO (.cells (fl (ds++NH res acc.length f::rest)))).get j=h.get j)/\(∀j,ow (h2.set jO (.cells (fl (ds++NH res acc.length f::rest)))) j->ow h j\/h.next<=j)/\¬ow (h2.set jO (.cells (fl (ds++NH res acc.length f::rest)))) jO/\¬ow (h2.set jO (.cells (fl (ds++NH res acc.length f::rest)))) iZ/\getCells h2 jO=getCells h jO:=by
  intro h1 h2 apu s1 e1 n1 g1 o1 s2 n2 g2 o2;have no1:∀j,j<h.next->¬ow h j->¬ow h1 j:=λj j1 j2 hj=>by
   rcases o1 j hj with hh|hh
   .exact j2 hh
   .omega
  have no2:∀j,j<h.next->¬ow h j->¬ow h2 j:=λj j1 j2 hj=>by
   rcases o2 j hj with hh|hh
   .exact no1 j j1 j2 hh
   .omega
  have g12:∀j,j<h.next->¬ow h j->h2.get j=h.get j:=λj j1 j2=>by rw[g2 j (by omega) (no1 j j1 j2),g1 j j1 j2]
  obtain⟨m1,m2⟩:=hC.mono h2 (h2.set jO (.cells (fl (ds++NH res acc.length f::rest)))) _ s2 (aJ _) (λj hj=>eu _ (λe=>by subst e;exact no2 jO c4 c2 hj));rw[e1]at m1;refine⟨m1,gG,?_,by rw[qp];omega,λj j1 j2 j3=>?_,λj hj=>?_,λhj=>no2 jO c4 c2 (m2 _ hj),λhj=>no2 iZ c5 c3 (m2 _ hj),?_⟩
  .rw[gy c1];simp only[getCells,g12 iZ c5 c3];exact hb
  .rw[eu _ (Ne.symm j2)];exact g12 j j1 j3
  .rcases o2 j (m2 j hj)with hh|hh
   .exact o1 j hh
   .exact .inr (by omega)
  .simp only[getCells,g12 jO c4 c2]
 have upd:∀(hk:f.k=1\/f.k=2),pu f=[f.at_]:=λhk=>by unfold pu;rw[if_pos hk]
 by_cases hk:f.k=1\/f.k=2
 .have hpu:=upd hk;have hfp:VD f=f.at_::f.env:=by unfold VD;rw[hpu];rfl
  rw[hfp,bP]at hK;obtain⟨h1',m1,m2,m3,m4,m5⟩:=hC.step h acc f.at_ hS (by omega);obtain⟨N,h2',p1,p2,p3,p4,p5⟩:=WV (iZ:=iZ) hC h1 h2 (nil:=f.nil) (ps:=f.env) (acc:=acc++[f.at_]) f.hn hfe (h:=h1') (by simp only[getCells,m4 iZ c5 c3];exact hb) m2 (by simp only[bI,bP,jS];omega) (λhj=>by
   rcases m5 iZ hj with hh|hh
   .exact c3 hh
   .omega) (by omega)
  obtain⟨q1,q2,q3,q4,q5,q6,q7,q8,q9⟩:=fin h1' h2' (acc++[f.at_]) m2 (by rw[hfp];simp) m3 m4 m5 p2 p3 p4 p5;have hR:NH res acc.length f=.agg [jn f.k,jn (res acc.length f.at_),.int .i64 f.op,.str f.nm,.int .i64 f.n,aV f.nil (MR res (acc++[f.at_]).length f.env)]:=by
   unfold NH;rw[hpu];simp[MR,hdD]
  have hsp2:splice (ds.length*6) (fl (ds++DX f::rest)) [jn f.k,jn (res acc.length f.at_),.int .i64 f.op,.str f.nm,.int .i64 f.n,aV f.nil (MR res (acc++[f.at_]).length f.env)]=some (fl (ds++NH res acc.length f::rest)):=by
   rw[hR]at hsp|-;exact hsp
  have go:∃aB lo2,(∀m,runM mm Tab.fns (N+m+500) (.code Tab.frC) fr lo h=.norm aB lo2 (h2'.set jO (.cells (fl (ds++NH res acc.length f::rest)))))/\FI aB lo2 iZ fv (.hsl jO 0 n none 6) n (ds.length+1) [x0,x1,x2,x3,.hsl jO 0 n none 6,x5,x6,x7,x8,x9,x10]:=by
   rcases hk with hk|hk
   .rw[hk]at hsk hsp2;exact ak4 hI hl hn hc hsk hb hC.vl (OT _ _) (SN _ _) m1 p1 (q9.trans hc) hsp2
   .rw[hk]at hsk hsp2;exact ak5 hI hl hn hc hsk hb hC.vl (OT _ _) (SN _ _) m1 p1 (q9.trans hc) hsp2
  obtain⟨aB,lo2,g1,g2⟩:=go;exact⟨N,aB,lo2,_,g1,g2,q1,q2,q3,q4,q5,q6,q7,q8⟩
 .have hpu:pu f=[]:=by unfold pu;rw[if_neg hk]
  have hfp:VD f=f.env:=by unfold VD;rw[hpu];rfl
  rw[hfp]at hK;obtain⟨N,h2',p1,p2,p3,p4,p5⟩:=WV (iZ:=iZ) hC h1 h2 (nil:=f.nil) (ps:=f.env) (acc:=acc) f.hn hfe (h:=h) hb hS hK c3 c5;obtain⟨q1,q2,q3,q4,q5,q6,q7,q8,q9⟩:=fin h h2' acc hS (by rw[hfp]) (aJ _) (λ_ _ _=>rfl) (λj hj=>.inl hj) p2 p3 p4 p5;have hR:NH res acc.length f=.agg [jn f.k,jn f.at_,.int .i64 f.op,.str f.nm,.int .i64 f.n,aV f.nil (MR res acc.length f.env)]:=by
   unfold NH;rw[hpu];simp[MR,hdD]
  have hsp2:splice (ds.length*6) (fl (ds++DX f::rest)) [jn f.k,jn f.at_,.int .i64 f.op,.str f.nm,.int .i64 f.n,aV f.nil (MR res acc.length f.env)]=some (fl (ds++NH res acc.length f::rest)):=by
   rw[hR]at hsp|-;exact hsp
  obtain⟨aB,lo2,g1,g2⟩:=ak3 hI hl hn hc hsk (λe=>hk (.inl e)) (λe=>hk (.inr e)) (OT _ _) (SN _ _) p1 (q9.trans hc) hsp2;exact⟨N,aB,lo2,_,g1,g2,q1,q2,q3,q4,q5,q6,q7,q8⟩
def aeL(hC:U0 mm fv K res S ow)(h1:mm 183=none)(h2:mm 184=none)(hn:n<=1000000):∀(fs:List Ls) (ds:List V) (acc:List Nat) (h:H) (fr:List V) (lo:Lo),
  FI fr lo iZ fv (.hsl jO 0 n none 6) n ds.length [x0,x1,x2,x3,.hsl jO 0 n none 6,x5,x6,x7,x8,x9,x10]->(∀v∈ds,v.cells.length=6)->ds.length+fs.length=n->getCells h jO=some (fl (ds++fs.map DX))->getCells h iZ=some [fv]->S h acc->acc.length+(wQ fs).length<=K->(wQ fs).length<=1000000 ->
  jO≠iZ->¬ow h jO->¬ow h iZ->jO<h.next->iZ<h.next ->
  ∃N aB lo2 h2,(∀m,runM mm Tab.fns (N+m) (.code (.loop Tab.frC)) fr lo h=.jump (.exit 0) aB lo2 h2)/\FI aB lo2 iZ fv (.hsl jO 0 n none 6) n n [x0,x1,x2,x3,.hsl jO 0 n none 6,x5,x6,x7,x8,x9,x10]/\S h2 (acc++wQ fs) /\
   getCells h2 jO=some (fl (ds++AA res acc.length fs))/\getCells h2 iZ=some [fv]/\h.next<=h2.next/\(∀j,j<h.next->j≠jO->¬ow h j->h2.get j=h.get j)/\(∀j,ow h2 j->ow h j\/h.next<=j)/\¬ow h2 jO/\¬ow h2 iZ
 |[],ds,acc,h,fr,lo,hI,hds,hl,hc,hb,hS,hK,hM,c1,c2,c3,c4,c5=>by
  simp at hl;subst hl;obtain⟨aB,e1,e2⟩:=aeK (mm:=mm) (h:=h) hI;refine⟨501,aB,lo,h,λm=>?_,e2,by simpa[wQ]using hS,by simpa[AA]using hc,hb,aJ _,λj _ _ _=>rfl,λj hj=>.inl hj,c2,c3⟩;rw[show 501+m=(m+500)+1 by omega];exact iM (e1 m)
 |f::fs,ds,acc,h,fr,lo,hI,hds,hl,hc,hb,hS,hK,hM,c1,c2,c3,c4,c5=>by
  simp only[bP,wQ,bI]at hl hK hM;have hfe:f.env.length<=(VD f).length:=by unfold VD;rw[bI];omega
  obtain⟨N,mP,lo1,h1',e1,e2,e3,e4,e5,e6,e7,e8,e9,e10⟩:=avH hC h1 h2 hn hI hds (by omega) hc hb hS (by omega) (by omega) c1 c2 c3 c4 c5;obtain⟨N2,aB,lo2,h2',r1,r2,r3,r4,r5,r6,r7,r8,r9,r10⟩:=aeL hC h1 h2 hn fs (ds++[NH res acc.length f]) (acc++VD f) h1' mP lo1 (by rw[bI];exact e2)
   (λv hv=>by
    rcases dH.1 hv with hv|hv
    .exact hds v hv
    .simp at hv;subst hv;rfl) (by simp only[bI,bP,jS];omega) (by rw[e4,fP];rfl) e5 e3 (by rw[bI];omega) (by omega) c1 e9 e10 (by omega) (by omega)
  refine⟨N+N2+501,aB,lo2,h2',λm=>?_,r2,by show S h2' (acc++(VD f++wQ fs));rw[<- fP];exact r3,?_,r5,by omega,λj j1 j2 j3=>?_,λj hj=>?_,r9,r10⟩
  .have hk:=e1 (N2+m);rw[show N+N2+501+m=(N+(N2+m)+500)+1 by omega,mQ (m:=0) hk,show N+(N2+m)+500=N2+(N+m+500) by omega];exact r1 _
  .rw[r4,bI,fP];rfl
  .rw[r7 j (by omega) j2 (λhj=>by
    rcases e8 j hj with hh|hh
    .exact j3 hh
    .omega)]
   exact e7 j j1 j2 j3
  .rcases r8 j hj with hh|hh
   .exact e8 j hh
   .exact .inr (by omega)
def AY(f:Nat×Nat):V:=.agg [jn f.1,jn f.2]
def koB(f:Nat×Nat):Bool:=Nat.ble f.1 4||Nat.beq f.1 8
def XJ(f:Nat×Nat):List Nat:=bif koB f then[f.2]else[]
def koR(res:Nat->Nat->Nat)(c:Nat)(f:Nat×Nat):V:=.agg [jn f.1,jn (hdD (MR res c (XJ f)) f.2)]
def AL(res:Nat->Nat->Nat):Nat->List (Nat×Nat)->List V
 |_,[]=>[]
 |c,f::fs=>koR res c f::AL res (c+(XJ f).length) fs
def Gz:List (Nat×Nat)->List Nat
 |[]=>[]
 |f::fs=>XJ f++Gz fs
variable {x4:V}
def awm(hC:U0 mm fv K res S ow)(hn:n<=1000000){f:Nat×Nat}{ds rest:List V}{acc:List Nat}{h:H}{fr:List V}{lo:Lo}
  (hI:KI fr lo iZ fv (.hsl jO 0 n none 2) n ds.length [x0,x1,x2,x3,x4,.hsl jO 0 n none 2,x6,x7,x8,x9,x10]) (hds:∀v∈ds,v.cells.length=2) (hl:ds.length<n) (hc:getCells h jO=some (fl (ds++AY f::rest))) (hb:getCells h iZ=some [fv]) (hS:S h acc) (hK:acc.length+(XJ f).length<=K)
  (c1:jO≠iZ) (c2:¬ow h jO) (c3:¬ow h iZ) (c4:jO<h.next) (c5:iZ<h.next) :
  ∃aB lo2 h2,(∀m,runM mm Tab.fns (m+500) (.code Tab.koC) fr lo h=.norm aB lo2 h2)/\KI aB lo2 iZ fv (.hsl jO 0 n none 2) n (ds.length+1) [x0,x1,x2,x3,x4,.hsl jO 0 n none 2,x6,x7,x8,x9,x10]/\S h2 (acc++XJ f) /\
   getCells h2 jO=some (fl (ds++koR res acc.length f::rest))/\getCells h2 iZ=some [fv]/\h.next<=h2.next/\(∀j,j<h.next->j≠jO->¬ow h j->h2.get j=h.get j)/\(∀j,ow h2 j->ow h j\/h.next<=j)/\¬ow h2 jO/\¬ow h2 iZ:=by
 have hsk:skip (ds.length*2) (fl (ds++AY f::rest))=jn f.1::jn f.2::fl rest:=by
  rw[Ju ds _ hds];rfl
 by_cases hk:koB f=true
 .have hpu:XJ f=[f.2]:=by unfold XJ;rw[hk];rfl
  rw[hpu]at hK|-;simp only[bP,jS]at hK;obtain⟨h1',m1,m2,m3,m4,m5⟩:=hC.step h acc f.2 hS (by omega);have hR:koR res acc.length f=.agg [jn f.1,jn (res acc.length f.2)]:=by
   unfold koR;rw[hpu];simp[MR,hdD]
  have hsp:splice (ds.length*2+1) (fl (ds++AY f::rest)) [jn (res acc.length f.2)]=some (fl (ds++koR res acc.length f::rest)):=by
   have h3:=Dv (s:=2) (v:=AY f) (w:=koR res acc.length f) rfl rfl ds rest hds;have hlen:ds.length*2+2<=(fl (ds++AY f::rest)).length:=by
    have h4:=congrArg List.length hsk;rw[pX,List.length_drop]at h4;simp only[bP]at h4;omega
   rw[ql _ _ _ (by rw[hR];simpa[V.cells]using hlen)]at h3;rw[ql _ _ _ (by simpa using hlen)];rw[<- h3,hR];congr 1;have e1:List.take (ds.length*2+1) (fl (ds++AY f::rest))=List.take (ds.length*2) (fl (ds++AY f::rest))++[jn f.1]:=by
    rw[List.take_succ];congr 1;have:=hsk;rw[pX]at this;have h5:(List.drop (ds.length*2) (fl (ds++AY f::rest)))[0]?=some (jn f.1):=by rw[this];rfl
    rw[jm,Nat.add_zero]at h5;rw[h5];rfl
   rw[e1];simp[V.cells]
  have YX:getCells h1' jO=some (fl (ds++AY f::rest)):=by simp only[getCells,m4 jO c4 c2];exact hc
  have no1:∀j,j<h.next->¬ow h j->¬ow h1' j:=λj j1 j2 hj=>by
   rcases m5 j hj with hh|hh
   .exact j2 hh
   .omega
  obtain⟨g1,g2⟩:=hC.mono h1' (h1'.set jO (.cells (fl (ds++koR res acc.length f::rest)))) _ m2 (aJ _) (λj hj=>eu _ (λe=>by subst e;exact no1 jO c4 c2 hj));have go:∃aB lo2,(∀m,runM mm Tab.fns (m+500) (.code Tab.koC) fr lo h=.norm aB lo2 (h1'.set jO (.cells (fl (ds++koR res acc.length f::rest)))))/\KI aB lo2 iZ fv (.hsl jO 0 n none 2) n (ds.length+1) [x0,x1,x2,x3,x4,.hsl jO 0 n none 2,x6,x7,x8,x9,x10]:=by
   unfold koB at hk;rw[gQ]at hk;rcases hk with hk|hk
   .exact al7 hI hl hn hc hsk (jA hk) hb hC.vl m1 YX hsp
   .rw[aP hk]at hsk;exact al8 hI hl hn hc hsk hb hC.vl m1 YX hsp
  obtain⟨aB,lo2,q1,q2⟩:=go;refine⟨aB,lo2,_,q1,q2,g1,gG,?_,by rw[qp];omega,λj j1 j2 j3=>?_,λj hj=>m5 j (g2 j hj),λhj=>no1 jO c4 c2 (g2 _ hj),λhj=>no1 iZ c5 c3 (g2 _ hj)⟩
  .rw[gy c1];simp only[getCells,m4 iZ c5 c3];exact hb
  .rw[eu _ (Ne.symm j2)];exact m4 j j1 j3
 .have hpu:XJ f=[]:=by unfold XJ;rw[Bool.eq_false_iff.2 hk];rfl
  have hR:koR res acc.length f=AY f:=by
   unfold koR AY;rw[hpu];simp[MR,hdD]
  unfold koB at hk;rw[gQ,not_or]at hk;obtain⟨aB,lo2,q1,q2⟩:=al6 (mm:=mm) hI hl hn hc hsk (by
   rcases dP 4 f.1 with h1|h1
   .exact h1
   .exact absurd (dO h1) hk.1) (λe=>hk.2 (by rw[e];rfl))
  exact⟨aB,lo2,h,q1,q2,by rw[hpu,iY];exact hS,by rw[hR];exact hc,hb,aJ _,λ_ _ _ _=>rfl,λj hj=>.inl hj,c2,c3⟩
def ae7(hC:U0 mm fv K res S ow)(hn:n<=1000000):∀(fs:List (Nat×Nat)) (ds:List V) (acc:List Nat) (h:H) (fr:List V) (lo:Lo),
  KI fr lo iZ fv (.hsl jO 0 n none 2) n ds.length [x0,x1,x2,x3,x4,.hsl jO 0 n none 2,x6,x7,x8,x9,x10]->(∀v∈ds,v.cells.length=2)->ds.length+fs.length=n->getCells h jO=some (fl (ds++fs.map AY))->getCells h iZ=some [fv]->S h acc->acc.length+(Gz fs).length<=K ->
  jO≠iZ->¬ow h jO->¬ow h iZ->jO<h.next->iZ<h.next ->
  ∃N aB lo2 h2,(∀m,runM mm Tab.fns (N+m) (.code (.loop Tab.koC)) fr lo h=.jump (.exit 2) aB lo2 h2)/\KI aB lo2 iZ fv (.hsl jO 0 n none 2) n n [x0,x1,x2,x3,x4,.hsl jO 0 n none 2,x6,x7,x8,x9,x10]/\S h2 (acc++Gz fs) /\
   getCells h2 jO=some (fl (ds++AL res acc.length fs))/\getCells h2 iZ=some [fv]/\h.next<=h2.next/\(∀j,j<h.next->j≠jO->¬ow h j->h2.get j=h.get j)/\(∀j,ow h2 j->ow h j\/h.next<=j)/\¬ow h2 jO/\¬ow h2 iZ
 |[],ds,acc,h,fr,lo,hI,hds,hl,hc,hb,hS,hK,c1,c2,c3,c4,c5=>by
  simp at hl;subst hl;obtain⟨aB,e1,e2⟩:=ae6 (mm:=mm) (h:=h) hI;refine⟨501,aB,lo,h,λm=>?_,e2,by simpa[Gz]using hS,by simpa[AL]using hc,hb,aJ _,λj _ _ _=>rfl,λj hj=>.inl hj,c2,c3⟩;rw[show 501+m=(m+500)+1 by omega];exact iM (e1 m)
 |f::fs,ds,acc,h,fr,lo,hI,hds,hl,hc,hb,hS,hK,c1,c2,c3,c4,c5=>by
  simp only[bP,Gz,bI]at hl hK;obtain⟨mP,lo1,h1',e1,e2,e3,e4,e5,e6,e7,e8,e9,e10⟩:=awm hC hn hI hds (by omega) hc hb hS (by omega) c1 c2 c3 c4 c5;obtain⟨N2,aB,lo2,h2',r1,r2,r3,r4,r5,r6,r7,r8,r9,r10⟩:=ae7 hC hn fs (ds++[koR res acc.length f]) (acc++XJ f) h1' mP lo1 (by rw[bI];exact e2)
   (λv hv=>by
    rcases dH.1 hv with hv|hv
    .exact hds v hv
    .simp at hv;subst hv;rfl) (by simp only[bI,bP,jS];omega) (by rw[e4,fP];rfl) e5 e3 (by rw[bI];omega) c1 e9 e10 (by omega) (by omega)
  refine⟨N2+501,aB,lo2,h2',λm=>?_,r2,by show S h2' (acc++(XJ f++Gz fs));rw[<- fP];exact r3,?_,r5,by omega,λj j1 j2 j3=>?_,λj hj=>?_,r9,r10⟩
  .have hk:=e1 (N2+m);rw[show N2+501+m=(N2+m+500)+1 by omega,mQ (m:=0) hk,show N2+m+500=N2+(m+500) by omega];exact r1 _
  .rw[r4,bI,fP];rfl
  .rw[r7 j (by omega) j2 (λhj=>by
    rcases e8 j hj with hh|hh
    .exact j3 hh
    .omega)]
   exact e7 j j1 j2 j3
  .rcases r8 j hj with hh|hh
   .exact e8 j hh
   .exact .inr (by omega)
end
end Go.Vx
section
open Go Go.RowKit
namespace Go.Vx.Tab
def aij:aN:=s (r [fa 120 6 2,fa 121 1 120,ld 122 121,k 123 187 [t 122],fa 124 6 2,fa 125 1 124,st 1 125 123]) (s (s (r [fa 126 6 2,fa 127 1 126,ld 128 127,ln 129 0 128,ci 130 0]) (bl 4 leC)) (s (r [la 161 11 2,st 11 4 161]) .ret))
def amZ:aN:=s (r [fa 90 5 2,ld 91 90,k 92 186 [t 91],fa 93 5 2,st 1 93 92]) (s (s (r [fa 94 5 2,ld 95 94,ln 96 0 95,ci 97 0]) (bl 2 koC)) aij)
def Nq:aN:=s (r [m 43 5,fa 44 1 2,fa 45 1 44,ld 46 45,.dyn (some 47) (t 43) [t 46],fa 48 1 2,fa 49 1 48,st 1 49 47]) (s (r [fa 50 1 2,fa 51 3 50,ld 52 51,k 53 185 [t 52],fa 54 1 2,fa 55 3 54,st 1 55 53]) (s (s (r [fa 56 1 2,fa 57 3 56,ld 58 57,ln 59 0 58,ci 60 0]) (bl 0 frC)) amZ))
def ET:(Tab.Lh).body=s (r [bv 2 0,bh 3 1,o 4 (.alloc [j 0,j 0,.aj,j 0,.aj,.aj,.aj,.aj,j 0,j 0,j 0])]) (s (r [o 13 (.l9 (.func 183) [] [t 3]),m 5 13]) (s (s (r [fa 14 0 2,ld 15 14,ei 16 0 15 3]) (z 16 (r [ld 17 3,fa 18 8 2,ld 19 18,.dyn (some 20) (t 17) [t 19],fa 21 8 2,st 1 21 20]) .skip)) (s (s (r [fa 22 1 2,fa 23 0 22,ld 24 23,bi 25 .lss 24 0,m 26 25,g1 26 27 (f 0 2),g1 26 28 (l 27),g1 26 29 (.eq true 0 (t 28) (i 3)),kd 30 26 29,m 31 30,g1 31 32 (f 0 2),g1 31 33 (l 32),g1 31 34 (.eq true 0 (t 33) (i 4)),kd 35 31 34]) (z 35 (r [ld 36 3,fa 37 1 2,fa 38 2 37,ld 39 38,.dyn (some 40) (t 36) [t 39],fa 41 1 2,fa 42 2 41,st 1 42 40]) .skip)) Nq))):=rfl
end Go.Vx.Tab
namespace Go.Vx
variable {mm:eF}{h h1 h2:H}{iZ jO n r k at_:Nat}{fr:List V}{lo:Lo}{v fv:V}{op:Int}{x0 x1 x2 x3 x4 x5 x6 x7 x8 x9 x10:V}
structure BI (fr:List V)(lo:Lo)(iZ:Nat)(xs:List V):Prop where
 fl:fr.length=162
 s2:aA fr 2=.aY 2 0
 s3:aA fr 3=.bg iZ 0
 s4:aA fr 4=.aY 4 0
 s5:aA fr 5=.func (.func 183) [] [.bg iZ 0]
 l2:dA lo 2=some xs
 l4:∃a0 a1 a2 a3 a4 a5 a6 a7 a8 a9 a10,dA lo 4=some [a0,a1,a2,a3,a4,a5,a6,a7,a8,a9,a10]
def am1(fl:fr.length=162)(s0:aA fr 0=.agg [jn 3,.int .i64 op,x2,x3,x4,x5,x6,x7,jn at_,x9,x10])(s1:aA fr 1=fv)(hfv:Vl fv)(hok:bf [jn 3,.int .i64 op,x2,x3,x4,x5,x6,x7,jn at_,x9,x10]=true)
  (hm:∀N,runM mm Tab.fns (N+100) (.app fv [jn at_]) [] [] (h.new (.cells [fv]))=.val (jn r) h1) :
  ∃aB lo2,(∀m,runM mm Tab.fns (m+300) (.code (Tab.Lh).body) fr [] h=runM mm Tab.fns (m+296) (.code Tab.Nq) aB lo2 h1)/\BI aB lo2 h.next [jn 3,.int .i64 op,x2,x3,x4,x5,x6,x7,jn r,x9,x10]:=by
 have k1:=hfv.kl;obtain⟨f1,f2,f3,f4⟩:=hfv;have hg:getCells (h.new (.cells [fv])) h.next=some [fv]:=fO;simp only[bf,ah,cZ]at hok;obtain⟨o0,o1,o2,o3,o4,o5,o6,o7,o8,o9,RG⟩:=hok;unfold jn at *;cases hop:wX op (Int.ofNat 0)with
 |true =>
  refine⟨?frt,?lot,?eqt,?ait⟩
  case eqt =>
   intro m;rw[Tab.ET,dR (m+295)];generalize Tab.Nq=D;simp -implicitDefEqProofs only[WW,yc,dX,jX,vF,aZ,aK,aC.ev,aC.evs,bG,aF,dA,eP,bH,splice,bC,skip,bf,Nat.beq,cO,dD,eH,eqK,nH,fU,gX,jU,OR.eU,LL9,Nat.reduceEqDiff,Nat.reduceLT,Nat.beq,fl,s0,s1,k1,f2,f3,hg,hm,hop];rfl
  case ait =>
   constructor<;>try first|rfl|(simp only[LL9,Nat.reduceEqDiff,Nat.reduceLT,Nat.beq,fl];done)
   exact⟨_,_,_,_,_,_,_,_,_,_,_,rfl⟩
 |false =>
  refine⟨?frf,?lof,?eqf,?aif⟩
  case eqf =>
   intro m;rw[Tab.ET,dR (m+295)];generalize Tab.Nq=D;simp -implicitDefEqProofs only[WW,yc,dX,jX,vF,aZ,aK,aC.ev,aC.evs,bG,aF,dA,eP,bH,splice,bC,skip,bf,Nat.beq,cO,dD,eH,eqK,nH,fU,gX,jU,OR.eU,LL9,Nat.reduceEqDiff,Nat.reduceLT,Nat.beq,fl,s0,s1,k1,f2,f3,hg,hm,hop];rfl
  case aif =>
   constructor<;>try first|rfl|(simp only[LL9,Nat.reduceEqDiff,Nat.reduceLT,Nat.beq,fl];done)
   exact⟨_,_,_,_,_,_,_,_,_,_,_,rfl⟩
def am0(fl:fr.length=162)(s0:aA fr 0=.agg [jn k,.int .i64 op,x2,jn at_,x4,x5,x6,x7,x8,x9,x10])(s1:aA fr 1=fv)(hfv:Vl fv)(hok:bf [jn k,.int .i64 op,x2,jn at_,x4,x5,x6,x7,x8,x9,x10]=true)(hk3:k≠3)(hk4:k≠4)(hop:wX op (Int.ofNat 0)=true)
  (hm:∀N,runM mm Tab.fns (N+100) (.app fv [jn at_]) [] [] (h.new (.cells [fv]))=.val (jn r) h1) :
  ∃aB lo2,(∀m,runM mm Tab.fns (m+300) (.code (Tab.Lh).body) fr [] h=runM mm Tab.fns (m+296) (.code Tab.Nq) aB lo2 h1)/\BI aB lo2 h.next [jn k,.int .i64 op,x2,jn r,x4,x5,x6,x7,x8,x9,x10]:=by
 have q3:Nat.beq k 3=false:=iH hk3;have q4:Nat.beq k 4=false:=iH hk4;have k1:=hfv.kl;obtain⟨f1,f2,f3,f4⟩:=hfv;have hg:getCells (h.new (.cells [fv])) h.next=some [fv]:=fO;simp only[bf,ah,cZ]at hok;obtain⟨o0,o1,o2,o3,o4,o5,o6,o7,o8,o9,RG⟩:=hok;unfold jn at *;refine⟨?frt,?lot,?eqt,?ait⟩
 case eqt =>
  intro m;rw[Tab.ET,dR (m+295)];generalize Tab.Nq=D;simp -implicitDefEqProofs only[WW,yc,dX,jX,vF,aZ,aK,aC.ev,aC.evs,bG,aF,dA,eP,bH,splice,bC,skip,bf,Nat.reduceAdd,Nat.beq,cO,dD,eH,eqK,nH,fU,gX,jU,OR.eU,LL9,Nat.reduceEqDiff,Nat.reduceLT,Nat.beq,fl,s0,s1,k1,f2,f3,hg,hm,hop,q3,q4];rfl
 case ait =>
  constructor<;>try first|rfl|(simp only[LL9,Nat.reduceEqDiff,Nat.reduceLT,Nat.beq,fl];done)
  exact⟨_,_,_,_,_,_,_,_,_,_,_,rfl⟩
def am2(fl:fr.length=162)(s0:aA fr 0=.agg [jn k,.int .i64 op,x2,x3,x4,x5,x6,x7,x8,x9,x10])(s1:aA fr 1=fv)(hfv:Vl fv)(hok:bf [jn k,.int .i64 op,x2,x3,x4,x5,x6,x7,x8,x9,x10]=true)(hk3:k≠3)(hop:k=4\/wX op (Int.ofNat 0)=false) :
  ∃aB lo2,(∀m,runM mm Tab.fns (m+300) (.code (Tab.Lh).body) fr [] h=runM mm Tab.fns (m+296) (.code Tab.Nq) aB lo2 (h.new (.cells [fv])))/\BI aB lo2 h.next [jn k,.int .i64 op,x2,x3,x4,x5,x6,x7,x8,x9,x10]:=by
 have q3:Nat.beq k 3=false:=iH hk3;have k1:=hfv.kl;obtain⟨f1,f2,f3,f4⟩:=hfv;have hg:getCells (h.new (.cells [fv])) h.next=some [fv]:=fO;simp only[bf,ah,cZ]at hok;obtain⟨o0,o1,o2,o3,o4,o5,o6,o7,o8,o9,RG⟩:=hok;unfold jn at *;cases hop2:wX op (Int.ofNat 0)with
 |true =>
  rcases hop with hop|hop
  .subst hop;refine⟨?frt,?lot,?eqt,?ait⟩
   case eqt =>
    intro m;rw[Tab.ET,dR (m+295)];generalize Tab.Nq=D;simp -implicitDefEqProofs only[WW,yc,dX,jX,vF,aZ,aK,aC.ev,aC.evs,bG,aF,dA,eP,skip,Nat.beq,cO,dD,eH,eqK,nH,fU,gX,jU,OR.eU,LL9,Nat.reduceEqDiff,Nat.reduceLT,Nat.beq,fl,s0,s1,k1,f2,f3,hop2];rfl
   case ait =>
    constructor<;>try first|rfl|(simp only[LL9,Nat.reduceEqDiff,Nat.reduceLT,Nat.beq,fl];done)
    exact⟨_,_,_,_,_,_,_,_,_,_,_,rfl⟩
  .rw[hop2]at hop;cases hop
 |false =>
  refine⟨?frf,?lof,?eqf,?aif⟩
  case eqf =>
   intro m;rw[Tab.ET,dR (m+295)];generalize Tab.Nq=D;simp -implicitDefEqProofs only[WW,yc,dX,jX,vF,aZ,aK,aC.ev,aC.evs,bG,aF,dA,eP,skip,Nat.beq,cO,dD,eH,eqK,nH,fU,gX,jU,OR.eU,LL9,Nat.reduceEqDiff,Nat.reduceLT,Nat.beq,fl,s0,s1,k1,f2,f3,hop2,q3];rfl
  case aif =>
   constructor<;>try first|rfl|(simp only[LL9,Nat.reduceEqDiff,Nat.reduceLT,Nat.beq,fl];done)
   exact⟨_,_,_,_,_,_,_,_,_,_,_,rfl⟩
def ar8{ev Yx sv:V}(hI:BI fr lo iZ [x0,x1,ev,x3,x4,x5,x6,x7,x8,x9,x10])(hev:Vl ev)(hev2:Vl Yx)(hx4:Vl x4)(hsv:Vl sv)
  {N0:Nat} (hp:∀m,runM mm Tab.fns (N0+m) (.call 183 [ev,.bg iZ 0]) [] [] h=.val Yx h1) (hcl:∀N,runM mm Tab.fns (N+60) (.call 185 [x4]) [] [] h1=.val sv h2) (hlen:lenOf h2 0 sv=some n) :
  ∃aB lo2,(∀m,runM mm Tab.fns (N0+m+300) (.code Tab.Nq) fr lo h=jC (runM mm Tab.fns (N0+m+297)) Tab.amZ (iw 0 (runM mm Tab.fns (N0+m+295) (.code (.loop Tab.frC)) aB lo2 h2)))/\FI aB lo2 iZ v sv n 0 [x0,x1,Yx,x3,sv,x5,x6,x7,x8,x9,x10]:=by
 obtain⟨fl,s2,s3,s4,s5,l2,l4⟩:=hI;obtain⟨a0,a1,a2,a3,a4,a5,a6,a7,a8,a9,a10,l4⟩:=l4;have k2:=hev.kl;have k3:=hev2.kl;have k4:=hx4.kl;have k5:=hsv.kl;obtain⟨e1,e2,e3,e4⟩:=hev;obtain⟨g1,g2,g3,g4⟩:=hev2;obtain⟨p1,p2,p3,p4⟩:=hx4;obtain⟨q1,q2,q3,q4⟩:=hsv;unfold jn at *;refine⟨?aB,?lo2,?eq,?ai⟩
 case eq =>
  intro m;have hp2:=λk=>(show runM mm Tab.fns (N0+m+k) (.call 183 [ev,.bg iZ 0]) [] [] h=.val Yx h1 by rw[gq];exact hp _);generalize N0+m=M at *;unfold Tab.Nq;simp only[Tab.bl];rw[dR (M+294)];generalize aN.loop Tab.frC=L;generalize Tab.amZ=D;simp -implicitDefEqProofs only[WW,dX,jX,jK,aZ,aK,aC.ev,aC.evs,bG,aF,bH,splice,bC,skip,bf,Nat.reduceAdd,Nat.beq,LL9,Nat.reduceEqDiff,Nat.reduceLT,Nat.beq,fl,s2,s5,l2,e1,g2,g3,g4,p1,q2,q3,q4,hp2,hcl,hlen];rfl
 case ai =>
  constructor<;>try (simp only[LL9,Nat.reduceEqDiff,Nat.reduceLT,fl,s2,s3,s4,s5,jn];done)
  exact⟨a0,a1,a2,a3,a4,a5,a6,a7,a8,a9,a10,by simp only[LL9,Nat.reduceEqDiff,l4]⟩
def ar9{kv:V}(hI:FI fr lo iZ fv v n n [x0,x1,x2,x3,x4,x5,x6,x7,x8,x9,x10])(hx5:Vl x5)(hkv:Vl kv)
  (hcl:∀N,runM mm Tab.fns (N+60) (.call 186 [x5]) [] [] h=.val kv h2) {n2:Nat} (hlen:lenOf h2 0 kv=some n2) :
  ∃aB lo2,(∀m,runM mm Tab.fns (m+300) (.code Tab.amZ) fr lo h=jC (runM mm Tab.fns (m+298)) Tab.aij (iw 2 (runM mm Tab.fns (m+296) (.code (.loop Tab.koC)) aB lo2 h2)))/\KI aB lo2 iZ fv kv n2 0 [x0,x1,x2,x3,x4,kv,x6,x7,x8,x9,x10]:=by
 obtain⟨fl,s2,s3,s4,s5,s58,s59,s60,l2,l4⟩:=hI;obtain⟨a0,a1,a2,a3,a4,a5,a6,a7,a8,a9,a10,l4⟩:=l4;have k4:=hx5.kl;have k5:=hkv.kl;obtain⟨p1,p2,p3,p4⟩:=hx5;obtain⟨q1,q2,q3,q4⟩:=hkv;unfold jn at *;refine⟨?aB,?lo2,?eq,?ai⟩
 case eq =>
  intro m;unfold Tab.amZ;simp only[Tab.bl];rw[dR (m+295)];generalize aN.loop Tab.koC=L;generalize Tab.aij=D;simp -implicitDefEqProofs only[WW,dX,jX,jK,aZ,aK,aC.ev,aC.evs,bG,aF,bH,splice,bC,skip,bf,Nat.beq,LL9,Nat.reduceEqDiff,Nat.reduceLT,Nat.beq,fl,s2,l2,p1,q2,q3,q4,hcl,hlen];rfl
 case ai =>
  constructor<;>try (simp only[LL9,Nat.reduceEqDiff,Nat.reduceLT,fl,s2,s3,s4,jn];done)
  exact⟨a0,a1,a2,a3,a4,a5,a6,a7,a8,a9,a10,by simp only[LL9,Nat.reduceEqDiff,l4]⟩
def YI:∀xs:List V,oO xs=fl xs
 |[]=>rfl
 |x::xs=>by
  have:=YI xs;cases x<;>simp only[oO,fl,V.cells,this,dZ,je]
def ab3{s:Nat}:∀{xs:List V},(∀v∈xs,v.cells.length=s)->(fl xs).length=xs.length*s
 |[],_=>by simp[fl]
 |x::xs,h=>by simp only[fl,bI,h x bZ,ab3 λv hv=>h v (bW _ hv),bP,kW];omega
def adU{s:Nat}{xs:List V}{e:Bool}(hx:∀v∈xs,v.cells.length=s):bJ h s xs.length (.list xs e)=some (fl xs):=by
 have hz:xY s xs=true:=by
  cases xs with
  |nil=>rfl
  |cons x xs=>simp only[xY,hx x bZ,jP]
 simp only[bJ,hz,dO (aJ _),aU,cond_true,YI];exact zh (ab3 hx).symm
def aj7(h0:mm 185=none)(N:Nat):runM mm Tab.fns (N+60) (.call 185 [.aj]) [] [] h=.val .aj h:=by
 rw[bn (by simp[ay,h0]) (show Tab.fns 185=some Tab.MS from rfl) rfl];simp -implicitDefEqProofs only[Tab.MS,WW,aS,aZ,aK,pad,aC.ev,bG,aF,bK,finish,resV,dI,nH,uV,gX,jU,OR.eU]
def aj3(h0:mm 185=none)(e:Bool)(N:Nat):runM mm Tab.fns (N+60) (.call 185 [.list [] e]) [] [] h=.val (.list [] true) h:=by
 have s1:bJ h 6 0 (.list [] e)=some []:=rfl;rw[bn (by simp[ay,h0]) (show Tab.fns 185=some Tab.MS from rfl) rfl];simp -implicitDefEqProofs only[Tab.MS,WW,aS,aZ,aK,dN,pad,aC.ev,bG,aF,bf,yH,bK,Nat.beq,finish,resV,dI,nH,uV,gX,jU,OR.eU,s1,fH,ou,SK,chunk,rep]
def aj0(h0:mm 185=none){xs:List V}(e:Bool)(hx:∀v∈xs,v.cells.length=6)(hok:bf (fl xs)=true)(hl:xs.length<=1000000)(hne:xs≠[])(N:Nat):runM mm Tab.fns (N+60) (.call 185 [.list xs e]) [] [] h=.val (.hsl h.next 0 xs.length none 6) (h.new (.cells (fl xs))):=by
 have s2:=adU (h:=h) (e:=e) hx;have hp:0<xs.length:=uN.2 hne;have hz:Nat.beq xs.length 0=false:=iH (by omega);have hm:Nat.ble xs.length 16777216=true:=dO (by omega);have hold:bJ h 6 0 (.list [] true)=some []:=rfl;have s1:fH (.list xs e)=some xs.length:=rfl;rw[bn (by simp[ay,h0]) (show Tab.fns 185=some Tab.MS from rfl) rfl];generalize fl xs=cs at *;generalize hlen:xs.length=len at *;simp -implicitDefEqProofs only[Tab.MS,WW,aS,aZ,aK,dN,pad,aC.ev,bG,aF,yH,bK,finish,resV,dI,nH,uV,gX,jU,OR.eU,s1,s2,hz,hm,hok,hold,ou,SK,chunk,rep,iJ]
def aj8(h0:mm 186=none)(N:Nat):runM mm Tab.fns (N+60) (.call 186 [.aj]) [] [] h=.val .aj h:=by
 rw[bn (by simp[ay,h0]) (show Tab.fns 186=some Tab.MW from rfl) rfl];simp -implicitDefEqProofs only[Tab.MW,WW,aS,aZ,aK,pad,aC.ev,bG,aF,bK,finish,resV,dI,nH,uV,gX,jU,OR.eU]
def aj6(h0:mm 186=none)(e:Bool)(N:Nat):runM mm Tab.fns (N+60) (.call 186 [.list [] e]) [] [] h=.val (.list [] true) h:=by
 have s1:bJ h 2 0 (.list [] e)=some []:=rfl;rw[bn (by simp[ay,h0]) (show Tab.fns 186=some Tab.MW from rfl) rfl];simp -implicitDefEqProofs only[Tab.MW,WW,aS,aZ,aK,dN,pad,aC.ev,bG,aF,bf,yH,bK,Nat.beq,finish,resV,dI,nH,uV,gX,jU,OR.eU,s1,fH,ou,SK,chunk,rep]
def aj1(h0:mm 186=none){xs:List V}(e:Bool)(hx:∀v∈xs,v.cells.length=2)(hok:bf (fl xs)=true)(hl:xs.length<=1000000)(hne:xs≠[])(N:Nat):runM mm Tab.fns (N+60) (.call 186 [.list xs e]) [] [] h=.val (.hsl h.next 0 xs.length none 2) (h.new (.cells (fl xs))):=by
 have s2:=adU (h:=h) (e:=e) hx;have hp:0<xs.length:=uN.2 hne;have hz:Nat.beq xs.length 0=false:=iH (by omega);have hm:Nat.ble xs.length 16777216=true:=dO (by omega);have hold:bJ h 2 0 (.list [] true)=some []:=rfl;have s1:fH (.list xs e)=some xs.length:=rfl;rw[bn (by simp[ay,h0]) (show Tab.fns 186=some Tab.MW from rfl) rfl];generalize fl xs=cs at *;generalize hlen:xs.length=len at *;simp -implicitDefEqProofs only[Tab.MW,WW,aS,aZ,aK,dN,pad,aC.ev,bG,aF,yH,bK,finish,resV,dI,nH,uV,gX,jU,OR.eU,s1,s2,hz,hm,hok,hold,ou,SK,chunk,rep,iJ]
def aj2(h0:mm 82=none){xs:List V}(e:Bool)(hx:∀v∈xs,v.cells.length=11)(hok:bf (fl xs)=true)(hl:xs.length<=1000000)(hne:xs≠[])(N:Nat):runM mm Tab.fns (N+60) (.call 82 [.list xs e]) [] [] h=.val (.hsl h.next 0 xs.length none 11) (h.new (.cells (fl xs))):=by
 have s2:=adU (h:=h) (e:=e) hx;have hp:0<xs.length:=uN.2 hne;have hz:Nat.beq xs.length 0=false:=iH (by omega);have hm:Nat.ble xs.length 16777216=true:=dO (by omega);have hold:bJ h 11 0 (.list [] true)=some []:=rfl;have s1:fH (.list xs e)=some xs.length:=rfl;rw[bn (by simp[ay,h0]) (show Tab.fns 82=some Tab.atv from rfl) rfl];generalize fl xs=cs at *;generalize hlen:xs.length=len at *;simp -implicitDefEqProofs only[Tab.atv,WW,aS,aZ,aK,dN,pad,aC.ev,bG,aF,yH,bK,finish,resV,dI,nH,uV,gX,jU,OR.eU,s1,s2,hz,hm,hok,hold,ou,SK,chunk,rep,iJ]
def aro(s96:aA fr 129=jn 0)(s97:aA fr 130=jn 0)(fl:fr.length=162):∃aB,(∀m,runM mm Tab.fns (m+500) (.code Tab.leC) fr lo h=.jump (.exit 4) aB lo h)/\aB=lC fr 131 (.bool false):=by
 unfold jn at *;refine⟨?aB,?eq,?ai⟩
 case eq =>
  intro m;simp -implicitDefEqProofs only[Tab.leC,WW,aS,aZ,aK,aC.ev,bG,Nat.blt,Nat.ble,cO,dD,eH,eqK,OR.eU,LL9,Nat.reduceLT,fl,s96,s97];rfl
 case ai=>rfl
def aj9(h0:mm 187=none)(N:Nat):runM mm Tab.fns (N+60) (.call 187 [.aj]) [] [] h=.val .aj h:=by
 rw[bn (by simp[ay,h0]) (show Tab.fns 187=some Tab.afW from rfl) rfl];simp -implicitDefEqProofs only[Tab.afW,WW,aS,aZ,aK,pad,aC.ev,bG,aF,bK,finish,resV,dI,nH,uV,gX,jU,OR.eU]
end Go.Vx
end
namespace Go.Vx
def zU(B:Nat)(v:V)(h:H)(u:V)(g:H):Prop:=∀N vs,B<=N->dF (N+1) (v::vs) h=kQ u (dF N vs g)
inductive FC (B:Nat):List V->H->List V->H->Prop
 |nil (h:H):FC B [] h [] h
 |cons {v u:V} {vs us:List V} {h h1 g:H} (a:zU B v h u h1) (b:FC B vs h1 us g):FC B (v::vs) h (u::us) g
def FC.qo{B:Nat}{vs us:List V}{h g:H}(hf:FC B vs h us g):∀N,B+vs.length<=N->dF N vs h=(us,g):=by
 induction hf with
 |nil h=>intro N _;cases N<;>simp[dF]
 |cons a b ih =>
  intro N hN;simp only[bP]at hN;obtain⟨M,rfl⟩:∃M,N=M+1:=⟨N-1,by omega⟩;rw[a M _ (by omega),ih M (by omega)];rfl
def zU.mono{B B2:Nat}{v u:V}{h g:H}(hf:zU B v h u g)(hb:B<=B2):zU B2 v h u g:=λN vs hN=>hf N vs (by omega)
def FC.mono{B B2:Nat}{v u:List V}{h g:H}(hf:FC B v h u g)(hb:B<=B2):FC B2 v h u g:=by
 induction hf with
 |nil h=>exact .nil h
 |cons a b ih=>exact .cons (a.mono hb) ih
def FC.append{B:Nat}{a b c d:List V}{h k g:H}(h1:FC B a h c k)(h2:FC B b k d g):FC B (a++b) h (c++d) g:=by
 induction h1 with
 |nil h=>exact h2
 |cons x y ih=>exact .cons x (ih h2)
def zU.flat{v:V}(hf:aO v=true)(h:H)(B:Nat):zU B v h v h:=λN vs _=>by
 cases v<;>simp only[dF,kQ]<;>try (cases hf;done)
 .rw[wR N _ h (show aW _=true from hf)]
 .rw[wR N _ h (show aW _=true from hf)]
def FC.flat{B:Nat}{h:H}:∀{vs:List V},aW vs=true->FC B vs h vs h
 |[],_=>.nil h
 |v::vs,hf=>by
  simp only[aW,ah]at hf;exact .cons (zU.flat hf.1 h B) (FC.flat hf.2)
def zU.agg{B:Nat}{cs us:List V}{h g:H}(hf:FC B cs h us g):zU (B+cs.length) (.agg cs) h (.agg us) g:=λN vs hN=>by
 simp only[dF,hf.qo N hN]
def zU.tuple{B:Nat}{cs us:List V}{h g:H}(hf:FC B cs h us g):zU (B+cs.length) (.tuple cs) h (.tuple us) g:=λN vs hN=>by
 simp only[dF,hf.qo N hN]
def zU.hsl{B id len sz:Nat}{cs xs us:List V}{h g:H}(hg:getCells h id=some cs)(hc:chunk sz len cs=some xs)(hf:FC B xs (h.del id) us g):zU (B+xs.length) (.hsl id 0 len none sz) h (.list us false) g:=λN vs hN=>by
 simp only[dF,alf hg,skip,hc,hf.qo N hN]
def zU.qo{B:Nat}{v u:V}{h g:H}(hf:zU B v h u g)(hb:B<=999999):Go.Vx.qo v h=(u,g):=by
 have:=hf 999999 [] hb;unfold Go.Vx.qo;rw[this,wR 999999 [] g rfl];rfl
def El(s:Nat)(v:V):Prop:=v.cells.length=s/\elemOf v.cells=v
def Ej{s:Nat}:∀{xs:List V},(∀v∈xs,El s v)->chunk s xs.length (fl xs)=some xs
 |[],_=>rfl
 |x::xs,h=>by
  obtain⟨h1,h2⟩:=h x bZ;have t1:takeN s (x.cells++fl xs)=some x.cells:=by
   rw[JF _ _ (by rw[bI];omega),List.take_left' h1]
  have t2:skip s (x.cells++fl xs)=fl xs:=by rw[pX,List.drop_left' h1]
  simp only[fl,bP,chunk,t1,t2,Ej λv hv=>h v (bW _ hv),h2]
end Go.Vx
section
open Go Go.RowKit
namespace Go.Vx.Tab
def aik:aN:=s (r [la 161 11 2,st 11 4 161]) .ret
def ar4:aij=s (r [fa 120 6 2,fa 121 1 120,ld 122 121,k 123 187 [t 122],fa 124 6 2,fa 125 1 124,st 1 125 123]) (s (s (r [fa 126 6 2,fa 127 1 126,ld 128 127,ln 129 0 128,ci 130 0]) (bl 4 leC)) aik):=rfl
end Go.Vx.Tab
namespace Go.Vx
variable {mm:eF}{h h1 h2:H}{iZ jO n K:Nat}{fr:List V}{lo:Lo}{v fv:V}{x0 x1 x2 x3 x4 x5 x6 x7 x8 x9 x10:V}{res:Nat->Nat->Nat}{S:H->List Nat->Prop}{ow:H->Nat->Prop}
def ar5(hI:KI fr lo iZ fv v n n [x0,x1,x2,x3,x4,x5,x6,.aj,x8,x9,x10])(hL:mm 187=none) :
  ∃aB lo2,(∀m,runM mm Tab.fns (m+800) (.code Tab.aij) fr lo h=runM mm Tab.fns (m+798) (.code Tab.aik) aB lo2 h)/\aB.length=162/\aA aB 2=.aY 2 0/\aA aB 4=.aY 4 0/\dA lo2 2=some [x0,x1,x2,x3,x4,x5,x6,.aj,x8,x9,x10] /\
   ∃a0 a1 a2 a3 a4 a5 a6 a7 a8 a9 a10,dA lo2 4=some [a0,a1,a2,a3,a4,a5,a6,a7,a8,a9,a10]:=by
 obtain⟨fl,s2,s3,s4,Xj,s96,s97,l2,l4⟩:=hI;obtain⟨a0,a1,a2,a3,a4,a5,a6,a7,a8,a9,a10,l4⟩:=l4;have hcl:=λN=>aj9 (h:=h) hL N;have key:∃mP lo1,(∀m,runM mm Tab.fns (m+800) (.code Tab.aij) fr lo h=jC (runM mm Tab.fns (m+798)) Tab.aik (iw 4 (runM mm Tab.fns (m+796) (.code (.loop Tab.leC)) mP lo1 h)))/\mP.length=162/\aA mP 2=.aY 2 0/\aA mP 4=.aY 4 0/\aA mP 129=jn 0/\aA mP 130=jn 0/\dA lo1 2=some [x0,x1,x2,x3,x4,x5,x6,.aj,x8,x9,x10] /\
   dA lo1 4=some [a0,a1,a2,a3,a4,a5,a6,a7,a8,a9,a10]:=by
  unfold jn at *;refine⟨?aB,?lo2,?eq,?ai⟩
  case eq =>
   intro m;rw[Tab.ar4];simp only[Tab.bl];rw[dR (m+795)];generalize aN.loop Tab.leC=L;generalize Tab.aik=D;simp -implicitDefEqProofs only[WW,dX,jX,jK,aZ,aK,aC.ev,aC.evs,bG,aF,bH,splice,bC,skip,bf,Nat.reduceAdd,Nat.beq,LL9,Nat.reduceEqDiff,Nat.reduceLT,Nat.beq,fl,s2,l2,hcl];rfl
  case ai =>
   refine⟨?_,?_,?_,?_,?_,?_,?_⟩<;>simp only[LL9,Nat.reduceEqDiff,Nat.reduceLT,fl,s2,s4,l4]
 obtain⟨mP,lo1,e1,e2,e3,e4,e5,e6,e7,e8⟩:=key;obtain⟨aB,g1,g2⟩:=aro (mm:=mm) (lo:=lo1) (h:=h) e5 e6 e2;refine⟨aB,lo1,λm=>?_,?_,?_,?_,e7,_,_,_,_,_,_,_,_,_,_,_,e8⟩
 .rw[e1,show m+796=(m+295+500)+1 by omega,iM (g1 _),iO];exact iR
 .rw[g2,AU,e2]
 .rw[g2,Gv (by decide),e3]
 .rw[g2,Gv (by decide),e4]
def ar6(fl:fr.length=162)(s2:aA fr 2=.aY 2 0)(s4:aA fr 4=.aY 4 0)(l2:dA lo 2=some [x0,x1,x2,x3,x4,x5,x6,x7,x8,x9,x10]){a0 a1 a2 a3 a4 a5 a6 a7 a8 a9 a10:V}(l4:dA lo 4=some [a0,a1,a2,a3,a4,a5,a6,a7,a8,a9,a10])
  (hok:bf [x0,x1,x2,x3,x4,x5,x6,x7,x8,x9,x10]=true) {g:H} {r:V} (hf:qo (.agg [x0,x1,x2,x3,x4,x5,x6,x7,x8,x9,x10]) h=(r,g)) :
  ∀m,wC Tab.Lh (runM mm Tab.fns (m+100) (.code Tab.aik) fr lo h)=.val r g:=by
 intro m;simp only[bf,ah,cZ]at hok;obtain⟨o0,o1,o2,o3,o4,o5,o6,o7,o8,o9,RG⟩:=hok;have e:(Tab.Lh).results=[(4,true,true,11)]:=rfl;have e2:(Tab.Lh).qo=true:=rfl;generalize Tab.Lh=F at *;simp -implicitDefEqProofs only[Tab.aik,WW,dX,jX,OC,aZ,aK,aC.ev,bG,aF,bH,splice,bC,takeN,skip,bf,bK,Nat.reduceAdd,Nat.beq,finish,resV,dI,mk,LL9,Nat.reduceEqDiff,Nat.reduceLT,Nat.beq,fl,s2,s4,l2,l4,e,e2,o0,o1,o2,o3,o4,o5,o6,o7,o8,o9,RG,hf]
structure AV where
 kind:Nat
 op:Int
 nE:Bool
 env:List Nat
 at_:Nat
 nS:Bool
 st:List Ls
 nK:Bool
 ko:List (Nat×Nat)
 at2:Nat
 fail:Int
 n:Int
 hE:nE=true->env=[]
 hS:nS=true->st=[]
 hK:nK=true->ko=[]
def sV(nil:Bool)(xs:List V):V:=bif nil then .aj else .list xs false
def rS(nil:Bool)(xs:List V):V:=bif nil then .aj else bif xs.isEmpty then .list [] true else .list xs false
def yP(t:AV):V:=.agg [jn t.kind,.int .i64 t.op,eV t.nE t.env,jn t.at_,sV t.nS (t.st.map DX),sV t.nK (t.ko.map AY),.aj,.aj,jn t.at2,.int .i64 t.fail,.int .i64 t.n]
def Nz(t:AV):Bool:=!(Nat.beq t.kind 3)&&(!(Nat.beq t.kind 4)&&wX t.op (Int.ofNat 0))
def hp(t:AV):List Nat:=bif Nat.beq t.kind 3 then[t.at2]else bif Nz t then[t.at_]else[]
def G7(t:AV):List Nat:=hp t++(t.env++(wQ t.st++Gz t.ko))
def thR(res:Nat->Nat->Nat)(c:Nat)(t:AV):V :=
 .agg [jn t.kind,.int .i64 t.op,aV t.nE (MR res (c+(hp t).length) t.env),jn (bif Nz t then res c t.at_ else t.at_),rS t.nS (AA res (c+(hp t).length+t.env.length) t.st),rS t.nK (AL res (c+(hp t).length+t.env.length+(wQ t.st).length) t.ko),.aj,.aj,jn (bif Nat.beq t.kind 3 then res c t.at2 else t.at2),.int .i64 t.fail,.int .i64 t.n]
def YS(res:Nat->Nat->Nat):∀(c:Nat) (fs:List Ls),(AA res c fs).length=fs.length
 |c,[]=>rfl
 |c,f::fs=>by simp only[AA,bP,YS res]
def ZC(res:Nat->Nat->Nat):∀(c:Nat) (fs:List (Nat×Nat)),(AL res c fs).length=fs.length
 |c,[]=>rfl
 |c,f::fs=>by simp only[AL,bP,ZC res]
def U5(b:Bool)(l:List Nat):aO (aV b l)=true:=by
 cases b with
 |true=>rfl
 |false=>cases l with
  |nil=>rfl
  |cons a l=>exact FV (a::l)
def VF(res:Nat->Nat->Nat):∀(c:Nat) (fs:List Ls),(∀v∈AA res c fs,El 6 v)/\aW (AA res c fs)=true
 |c,[]=>⟨λv hv=>by simp[AA]at hv,rfl⟩
 |c,f::fs=>by
  obtain⟨h1,h2⟩:=VF res (c+(VD f).length) fs;refine⟨λv hv=>?_,?_⟩
  .rcases bU.1 hv with rfl|hv
   .exact⟨rfl,rfl⟩
   .exact h1 v hv
  .simp only[AA,aW,NH,aO,jn,U5,h2,aU]
def V9(res:Nat->Nat->Nat):∀(c:Nat) (fs:List (Nat×Nat)),(∀v∈AL res c fs,El 2 v)/\aW (AL res c fs)=true
 |c,[]=>⟨λv hv=>by simp[AL]at hv,rfl⟩
 |c,f::fs=>by
  obtain⟨h1,h2⟩:=V9 res (c+(XJ f).length) fs;refine⟨λv hv=>?_,?_⟩
  .rcases bU.1 hv with rfl|hv
   .exact⟨rfl,rfl⟩
   .exact h1 v hv
  .simp only[AL,aW,koR,aO,jn,h2,aU]
def Z4:∀fs:List Ls,bf (fl (fs.map DX))=true
 |[]=>rfl
 |f::fs=>by
  have:=(OT f.nil f.env).o;simp only[bD,fl,DX,V.cells,jn,dZ,je,bf,Ak,afp,this,Z4 fs,aU]
def Z5:∀fs:List (Nat×Nat),bf (fl (fs.map AY))=true
 |[]=>rfl
 |f::fs=>by simp only[bD,fl,AY,V.cells,jn,dZ,je,bf,qW,Z5 fs,aU]
def Ux(b:Bool)(l:List V):Vl (sV b l):=by cases b<;>exact⟨rfl,rfl,rfl,rfl⟩
structure PlM (mm:eF):Prop where
 p:mm 78=none
 a:mm 183=none
 i:mm 184=none
 f:mm 185=none
 k:mm 186=none
 l:mm 187=none
structure Lu (S:H->List Nat->Prop)(ow:H->Nat->Prop)(h g:H)(acc:List Nat):Prop where
 s:S g acc
 n:h.next<=g.next
 f:∀j,j<h.next->¬ow h j->g.get j=h.get j
 o:∀j,ow g j->ow h j\/h.next<=j
def Lu.trans{h g k:H}{a b:List Nat}(x:Lu S ow h g a)(y:Lu S ow g k b):Lu S ow h k b where
 s:=y.s
 n:=by have:=x.n;have:=y.n;omega
 f j j1 j2:=by
  rw[y.f j (by have:=x.n;omega) (λhj=>by
   rcases x.o j hj with hh|hh
   .exact j2 hh
   .omega)]
  exact x.f j j1 j2
 o j hj:=by
  rcases y.o j hj with hh|hh
  .exact x.o j hh
  .exact .inr (by have:=x.n;omega)
def Lu.no{h g:H}{a:List Nat}(x:Lu S ow h g a){j:Nat}(hj:j<h.next)(ho:¬ow h j):¬ow g j:=λhh=>by
 rcases x.o j hh with h1|h1
 .exact ho h1
 .omega
def Lu.new(hC:U0 mm fv K res S ow){h:H}{a:List Nat}(hS:S h a)(o:Obj):Lu S ow h (h.new o) a:=by
 obtain⟨m1,m2⟩:=hC.mono h (h.new o) a hS (by rw[iU];omega) (λj hj=>iq _ (by have:=hC.lt h a j hS hj;omega));exact⟨m1,by rw[iU];omega,λj hj _=>iq _ (by omega),λj hj=>.inl (m2 j hj)⟩
def Lu.rfl'{h:H}{a:List Nat}(hS:S h a):Lu S ow h h a:=⟨hS,aJ _,λ_ _ _=>rfl,λ_ hj=>.inl hj⟩
structure Prt (S:H->List Nat->Prop)(ow:H->Nat->Prop)(iZ:Nat)(fv:V)(h g:H)(acc:List Nat)(v u:V):Prop where
 leg:Lu S ow h g acc
 b:getCells g iZ=some [fv]
 z:∀k:H,(∀j,dw v j->k.get j=g.get j)->∃k2,zU 2000 v k u k2/\k2.next=k.next/\∀j,¬dw v j->k2.get j=k.get j
 i:∀j,dw v j->h.next<=j/\j<g.next/\¬ow g j
def asH(hC:U0 mm fv K res S ow)(hm:PlM mm){nil:Bool}{fs:List Ls}{acc:List Nat}{h:H}(hn:nil=true->fs=[])(hS:S h acc)(hK:acc.length+(wQ fs).length<=K)(hl:fs.length<=1000)(hM:(wQ fs).length<=1000000)(hb:getCells h iZ=some [fv])(hob:¬ow h iZ)(hbl:iZ<h.next) :
  ∃sv n h1,(∀N,runM mm Tab.fns (N+60) (.call 185 [sV nil (fs.map DX)]) [] [] h=.val sv h1)/\lenOf h1 0 sv=some n/\Vl sv/\∀fr lo x0 x1 x2 x3 x5 x6 x7 x8 x9 x10,FI fr lo iZ fv sv n 0 [x0,x1,x2,x3,sv,x5,x6,x7,x8,x9,x10]->∃N aB lo2 g,(∀m,runM mm Tab.fns (N+m) (.code (.loop Tab.frC)) fr lo h1=.jump (.exit 0) aB lo2 g)/\FI aB lo2 iZ fv sv n n [x0,x1,x2,x3,sv,x5,x6,x7,x8,x9,x10] /\
   Prt S ow iZ fv h g (acc++wQ fs) sv (rS nil (AA res acc.length fs)):=by
 have zero:∀{v:V},fs=[]->(∀a b c d e,v≠.hsl a b c d e)->Vl v->(∀N,runM mm Tab.fns (N+60) (.call 185 [sV nil (fs.map DX)]) [] [] h=.val v h)->lenOf h 0 v=some 0->aO v=true->rS nil (AA res acc.length fs)=v ->
   ∃sv n h1,(∀N,runM mm Tab.fns (N+60) (.call 185 [sV nil (fs.map DX)]) [] [] h=.val sv h1)/\lenOf h1 0 sv=some n/\Vl sv/\∀fr lo x0 x1 x2 x3 x5 x6 x7 x8 x9 x10,FI fr lo iZ fv sv n 0 [x0,x1,x2,x3,sv,x5,x6,x7,x8,x9,x10]->∃N aB lo2 g,(∀m,runM mm Tab.fns (N+m) (.code (.loop Tab.frC)) fr lo h1=.jump (.exit 0) aB lo2 g)/\FI aB lo2 iZ fv sv n n [x0,x1,x2,x3,sv,x5,x6,x7,x8,x9,x10] /\
   Prt S ow iZ fv h g (acc++wQ fs) sv (rS nil (AA res acc.length fs)):=by
  intro v e1 e2 e3 e4 e5 e6 e7;refine⟨v,0,h,e4,e5,e3,λfr lo x0 x1 x2 x3 x5 x6 x7 x8 x9 x10 hI=>?_⟩;obtain⟨aB,g1,g2⟩:=aeK (mm:=mm) (h:=h) hI;refine⟨501,aB,lo,h,λm=>by rw[show 501+m=(m+500)+1 by omega];exact iM (g1 m),g2,?_,hb,λk _=>⟨k,?_,rfl,λ_ _=>rfl⟩,λj hj=>?_⟩
  .rw[e1];simpa[wQ]using Lu.rfl' hS
  .rw[e7];exact zU.flat e6 k 2000
  .obtain⟨_,_,_,_,hh⟩:=hj;exact absurd hh (e2 _ _ _ _ _)
 cases nil with
 |true =>
  have:=hn rfl;subst this;exact zero rfl (λ_ _ _ _ _ h=>by cases h) ⟨rfl,rfl,rfl,rfl⟩ (λN=>aj7 hm.f N) (F5 _) rfl rfl
 |false =>
  by_cases hf:fs=[]
  .subst hf;exact zero rfl (λ_ _ _ _ _ h=>by cases h) ⟨rfl,rfl,rfl,rfl⟩ (λN=>aj3 hm.f false N) (qQ _ _ _) rfl rfl
  .have hel:∀v∈fs.map DX,v.cells.length=6:=λv hv=>by obtain⟨f,_,rfl⟩:=kC.1 hv;rfl
   have hlen:(fs.map DX).length=fs.length:=by simp
   have hcl:=λN=>aj0 (h:=h) hm.f false hel (Z4 fs) (by rw[hlen];omega) (by simpa using hf) N;rw[hlen]at hcl;have hL1:=Lu.new hC hS (.cells (fl (fs.map DX)));have d1:h.next≠iZ:=by omega
   have d2:¬ow (h.new (.cells (fl (fs.map DX)))) h.next:=λhh=>by
    obtain⟨m1,m2⟩:=hC.mono h (h.new (.cells (fl (fs.map DX)))) acc hS (by rw[iU];omega) (λj hj=>iq _ (by have:=hC.lt h acc j hS hj;omega));have:=hC.lt h acc _ hS (m2 _ hh);omega
   have d3:=hL1.no hbl hob;refine⟨.hsl h.next 0 fs.length none 6,fs.length,_,hcl,yT _ _ _ _ _ _,⟨rfl,rfl,rfl,rfl⟩,λfr lo x0 x1 x2 x3 x5 x6 x7 x8 x9 x10 hI=>?_⟩;obtain⟨N,aB,lo2,g,r1,r2,r3,r4,r5,r6,r7,r8,r9,r10⟩:=aeL hC hm.a hm.i (by omega) fs [] acc (h.new (.cells (fl (fs.map DX)))) fr lo hI (λv hv=>by simp at hv) (by simp) (by rw[je];exact fO) (by rw[oD d1];exact hb) hL1.s hK hM d1 d2 d3 (by rw[iU];omega) (by rw[iU];omega);have hng:h.next+1<=g.next:=r6;refine⟨N,aB,lo2,g,r1,r2,⟨r3,by omega,λj j1 j2=>?_,λj hj=>?_⟩,r5,λk hk=>?_,λj hj=>?_⟩
   .rw[r7 j (by rw[iU];omega) (by omega) (hL1.no j1 j2)];exact hL1.f j j1 j2
   .rcases r8 j hj with hh|hh
    .exact hL1.o j hh
    .rw[iU]at hh;exact .inr (by omega)
   .rw[je]at r4;obtain⟨e1,e2⟩:=VF res acc.length fs;have hln:=YS res acc.length fs;have hkc:getCells k h.next=some (fl (AA res acc.length fs)):=by simp only[getCells,hk h.next ⟨_,_,_,_,rfl⟩];exact r4
    have hz:=zU.hsl (B:=0) (sz:=6) hkc (Ej e1) (FC.flat (h:=k.del h.next) e2);rw[hln]at hz;have hr:rS false (AA res acc.length fs)=.list (AA res acc.length fs) false:=by
     have:(AA res acc.length fs).isEmpty=false:=by
      cases fs with
      |nil=>exact absurd rfl hf
      |cons f fs=>rfl
     simp only[rS,this,cond_false]
    rw[hr];exact⟨_,hz.mono (by omega),rfl,λj hj=>kE (λe=>hj ⟨_,_,_,_,by rw[e]⟩)⟩
   .obtain⟨_,_,_,_,hh⟩:=hj;cases hh;exact⟨aJ _,by omega,r9⟩
def arb(hC:U0 mm fv K res S ow)(hm:PlM mm){nil:Bool}{fs:List (Nat×Nat)}{acc:List Nat}{h:H}(hn:nil=true->fs=[])(hS:S h acc)(hK:acc.length+(Gz fs).length<=K)(hl:fs.length<=1000)(hb:getCells h iZ=some [fv])(hob:¬ow h iZ)(hbl:iZ<h.next) :
  ∃sv n h1,(∀N,runM mm Tab.fns (N+60) (.call 186 [sV nil (fs.map AY)]) [] [] h=.val sv h1)/\lenOf h1 0 sv=some n/\Vl sv/\∀fr lo x0 x1 x2 x3 x4 x6 x7 x8 x9 x10,KI fr lo iZ fv sv n 0 [x0,x1,x2,x3,x4,sv,x6,x7,x8,x9,x10]->∃N aB lo2 g,(∀m,runM mm Tab.fns (N+m) (.code (.loop Tab.koC)) fr lo h1=.jump (.exit 2) aB lo2 g)/\KI aB lo2 iZ fv sv n n [x0,x1,x2,x3,x4,sv,x6,x7,x8,x9,x10] /\
   Prt S ow iZ fv h g (acc++Gz fs) sv (rS nil (AL res acc.length fs)):=by
 have zero:∀{v:V},fs=[]->(∀a b c d e,v≠.hsl a b c d e)->Vl v->(∀N,runM mm Tab.fns (N+60) (.call 186 [sV nil (fs.map AY)]) [] [] h=.val v h)->lenOf h 0 v=some 0->aO v=true->rS nil (AL res acc.length fs)=v ->
   ∃sv n h1,(∀N,runM mm Tab.fns (N+60) (.call 186 [sV nil (fs.map AY)]) [] [] h=.val sv h1)/\lenOf h1 0 sv=some n/\Vl sv/\∀fr lo x0 x1 x2 x3 x4 x6 x7 x8 x9 x10,KI fr lo iZ fv sv n 0 [x0,x1,x2,x3,x4,sv,x6,x7,x8,x9,x10]->∃N aB lo2 g,(∀m,runM mm Tab.fns (N+m) (.code (.loop Tab.koC)) fr lo h1=.jump (.exit 2) aB lo2 g)/\KI aB lo2 iZ fv sv n n [x0,x1,x2,x3,x4,sv,x6,x7,x8,x9,x10] /\
   Prt S ow iZ fv h g (acc++Gz fs) sv (rS nil (AL res acc.length fs)):=by
  intro v e1 e2 e3 e4 e5 e6 e7;refine⟨v,0,h,e4,e5,e3,λfr lo x0 x1 x2 x3 x4 x6 x7 x8 x9 x10 hI=>?_⟩;obtain⟨aB,g1,g2⟩:=ae6 (mm:=mm) (h:=h) hI;refine⟨501,aB,lo,h,λm=>by rw[show 501+m=(m+500)+1 by omega];exact iM (g1 m),g2,?_,hb,λk _=>⟨k,?_,rfl,λ_ _=>rfl⟩,λj hj=>?_⟩
  .rw[e1];simpa[Gz]using Lu.rfl' hS
  .rw[e7];exact zU.flat e6 k 2000
  .obtain⟨_,_,_,_,hh⟩:=hj;exact absurd hh (e2 _ _ _ _ _)
 cases nil with
 |true =>
  have:=hn rfl;subst this;exact zero rfl (λ_ _ _ _ _ h=>by cases h) ⟨rfl,rfl,rfl,rfl⟩ (λN=>aj8 hm.k N) (F5 _) rfl rfl
 |false =>
  by_cases hf:fs=[]
  .subst hf;exact zero rfl (λ_ _ _ _ _ h=>by cases h) ⟨rfl,rfl,rfl,rfl⟩ (λN=>aj6 hm.k false N) (qQ _ _ _) rfl rfl
  .have hel:∀v∈fs.map AY,v.cells.length=2:=λv hv=>by obtain⟨f,_,rfl⟩:=kC.1 hv;rfl
   have hlen:(fs.map AY).length=fs.length:=by simp
   have hcl:=λN=>aj1 (h:=h) hm.k false hel (Z5 fs) (by rw[hlen];omega) (by simpa using hf) N;rw[hlen]at hcl;have hL1:=Lu.new hC hS (.cells (fl (fs.map AY)));have d1:h.next≠iZ:=by omega
   have d2:¬ow (h.new (.cells (fl (fs.map AY)))) h.next:=λhh=>by
    obtain⟨m1,m2⟩:=hC.mono h (h.new (.cells (fl (fs.map AY)))) acc hS (by rw[iU];omega) (λj hj=>iq _ (by have:=hC.lt h acc j hS hj;omega));have:=hC.lt h acc _ hS (m2 _ hh);omega
   have d3:=hL1.no hbl hob;refine⟨.hsl h.next 0 fs.length none 2,fs.length,_,hcl,yT _ _ _ _ _ _,⟨rfl,rfl,rfl,rfl⟩,λfr lo x0 x1 x2 x3 x4 x6 x7 x8 x9 x10 hI=>?_⟩;obtain⟨N,aB,lo2,g,r1,r2,r3,r4,r5,r6,r7,r8,r9,r10⟩:=ae7 hC (by omega) fs [] acc (h.new (.cells (fl (fs.map AY)))) fr lo hI (λv hv=>by simp at hv) (by simp) (by rw[je];exact fO) (by rw[oD d1];exact hb) hL1.s hK d1 d2 d3 (by rw[iU];omega) (by rw[iU];omega);have hng:h.next+1<=g.next:=r6;refine⟨N,aB,lo2,g,r1,r2,⟨r3,by omega,λj j1 j2=>?_,λj hj=>?_⟩,r5,λk hk=>?_,λj hj=>?_⟩
   .rw[r7 j (by rw[iU];omega) (by omega) (hL1.no j1 j2)];exact hL1.f j j1 j2
   .rcases r8 j hj with hh|hh
    .exact hL1.o j hh
    .rw[iU]at hh;exact .inr (by omega)
   .rw[je]at r4;obtain⟨e1,e2⟩:=V9 res acc.length fs;have hln:=ZC res acc.length fs;have hkc:getCells k h.next=some (fl (AL res acc.length fs)):=by simp only[getCells,hk h.next ⟨_,_,_,_,rfl⟩];exact r4
    have hz:=zU.hsl (B:=0) (sz:=2) hkc (Ej e1) (FC.flat (h:=k.del h.next) e2);rw[hln]at hz;have hr:rS false (AL res acc.length fs)=.list (AL res acc.length fs) false:=by
     have:(AL res acc.length fs).isEmpty=false:=by
      cases fs with
      |nil=>exact absurd rfl hf
      |cons f fs=>rfl
     simp only[rS,this,cond_false]
    rw[hr];exact⟨_,hz.mono (by omega),rfl,λj hj=>kE (λe=>hj ⟨_,_,_,_,by rw[e]⟩)⟩
   .obtain⟨_,_,_,_,hh⟩:=hj;cases hh;exact⟨aJ _,by omega,r9⟩
end Go.Vx
end
namespace Go.Vx
section
variable {mm:eF}{K:Nat}{fv:V}{res:Nat->Nat->Nat}{S:H->List Nat->Prop}{ow:H->Nat->Prop}
def KO(n:Nat):qW (jn n)=true:=rfl
def Zk(b:Bool)(l:List V):Vl (rS b l):=by
 cases b with
 |true=>exact⟨rfl,rfl,rfl,rfl⟩
 |false=>cases l<;>exact⟨rfl,rfl,rfl,rfl⟩
def ar7(hC:U0 mm fv K res S ow)(t:AV){h:H}{acc:List Nat}(hS:S h acc)(hK:acc.length+(hp t).length<=K) :
  ∃aB lo2 h1,(∀m,runM mm Tab.fns (m+300) (.code (Tab.Lh).body) (pad 162 [yP t,fv]) [] h=runM mm Tab.fns (m+296) (.code Tab.Nq) aB lo2 h1) /\
   BI aB lo2 h.next [jn t.kind,.int .i64 t.op,eV t.nE t.env,jn (bif Nz t then res acc.length t.at_ else t.at_),sV t.nS (t.st.map DX),sV t.nK (t.ko.map AY),.aj,.aj,jn (bif Nat.beq t.kind 3 then res acc.length t.at2 else t.at2),.int .i64 t.fail,.int .i64 t.n] /\
   Lu S ow (h.new (.cells [fv])) h1 (acc++hp t):=by
 have hL0:=Lu.new hC hS (.cells [fv]);obtain⟨_,_,_,e4⟩:=OT t.nE t.env;obtain⟨_,_,_,e5⟩:=Ux t.nS (t.st.map DX);obtain⟨_,_,_,e6⟩:=Ux t.nK (t.ko.map AY);have hok:bf [jn t.kind,.int .i64 t.op,eV t.nE t.env,jn t.at_,sV t.nS (t.st.map DX),sV t.nK (t.ko.map AY),.aj,.aj,jn t.at2,.int .i64 t.fail,.int .i64 t.n]=true:=by
  simp only[bf,e4,e5,e6,KO,Ak,BO,aU]
 cases h3:Nat.beq t.kind 3 with
 |true =>
  have hk:=aP h3;have hat:Nz t=false:=by unfold Nz;rw[h3];rfl
  have hhp:hp t=[t.at2]:=by unfold hp;rw[h3];rfl
  rw[hhp]at hK;simp only[bP,jS]at hK;obtain⟨h1,m1,m2,m3,m4,m5⟩:=hC.step _ acc t.at2 hL0.s (by omega);obtain⟨aB,lo2,g1,g2⟩:=am1 (mm:=mm) (h:=h) (fr:=pad 162 [yP t,fv]) (op:=t.op) (x2:=eV t.nE t.env) (x3:=jn t.at_) (x4:=sV t.nS (t.st.map DX)) (x5:=sV t.nK (t.ko.map AY)) (x6:=.aj) (x7:=.aj) (at_:=t.at2) (x9:=.int .i64 t.fail) (x10:=.int .i64 t.n) rfl (by rw[<- hk];rfl) rfl hC.vl (by rw[<- hk];exact hok) m1;refine⟨aB,lo2,h1,g1,?_,?_⟩
  .rw[hat,hk];exact g2
  .rw[hhp];exact⟨m2,m3,m4,m5⟩
 |false =>
  have hk3:t.kind≠3:=λe=>by rw[e]at h3;cases h3
  cases hat:Nz t with
  |true =>
   have hhp:hp t=[t.at_]:=by unfold hp;rw[h3,hat];rfl
   rw[hhp]at hK;simp only[bP,jS]at hK;have ha2:=hat
   unfold Nz at ha2;simp only[ah,fQ]at ha2;have hk4:t.kind≠4:=λe=>by rw[e]at ha2;cases ha2.2.1
   obtain⟨h1,m1,m2,m3,m4,m5⟩:=hC.step _ acc t.at_ hL0.s (by omega);obtain⟨aB,lo2,g1,g2⟩:=am0 (mm:=mm) (h:=h) (fr:=pad 162 [yP t,fv]) (k:=t.kind) (op:=t.op) (x2:=eV t.nE t.env) (at_:=t.at_) (x4:=sV t.nS (t.st.map DX)) (x5:=sV t.nK (t.ko.map AY)) (x6:=.aj) (x7:=.aj) (x8:=jn t.at2) (x9:=.int .i64 t.fail) (x10:=.int .i64 t.n) rfl rfl rfl hC.vl hok hk3 hk4 ha2.2.2 m1;refine⟨aB,lo2,h1,g1,g2,?_⟩;rw[hhp];exact⟨m2,m3,m4,m5⟩
  |false =>
   have hhp:hp t=[]:=by unfold hp;rw[h3,hat];rfl
   have hop:t.kind=4\/wX t.op (Int.ofNat 0)=false:=by
    unfold Nz at hat
    rw[h3]at hat
    simp only[Bool.not_false,Bool.true_and,Bool.and_eq_false_iff,Bool.not_eq_false']at hat
    rcases hat with hat|hat
    .exact .inl (aP hat)
    .exact .inr hat
   obtain⟨aB,lo2,g1,g2⟩:=am2 (mm:=mm) (h:=h) (fr:=pad 162 [yP t,fv]) (k:=t.kind) (op:=t.op) (x2:=eV t.nE t.env) (x3:=jn t.at_) (x4:=sV t.nS (t.st.map DX)) (x5:=sV t.nK (t.ko.map AY)) (x6:=.aj) (x7:=.aj) (x8:=jn t.at2) (x9:=.int .i64 t.fail) (x10:=.int .i64 t.n) rfl rfl rfl hC.vl hok hk3 hop;refine⟨aB,lo2,_,g1,g2,?_⟩;rw[hhp,iY];exact Lu.rfl' hL0.s
def am3(hC:U0 mm fv K res S ow)(hm:PlM mm)(t:AV){h:H}{acc:List Nat}(hS:S h acc)(hK:acc.length+(G7 t).length<=K)(hl1:t.st.length<=1000)(hl2:t.ko.length<=1000)(hl3:(G7 t).length<=1000000) :
  ∃N g,(∀m,runM mm Tab.fns (N+m) (.call 78 [yP t,fv]) [] [] h=.val (thR res acc.length t) g)/\Lu S ow h g (acc++G7 t):=by
 unfold G7 at hK hl3;simp only[bI]at hK hl3;have hL0:=Lu.new hC hS (.cells [fv]);have hbo:¬ow (h.new (.cells [fv])) h.next:=λhh=>by
  obtain⟨m1,m2⟩:=hC.mono h (h.new (.cells [fv])) acc hS (by rw[iU];omega) (λj hj=>iq _ (by have:=hC.lt h acc j hS hj;omega));have:=hC.lt h acc _ hS (m2 _ hh);omega
 obtain⟨mP,lo1,h1,a1,a2,a3⟩:=ar7 hC t hS (by omega);have n1:=a3.n;rw[iU]at n1;have hb1:getCells h1 h.next=some [fv]:=by
  simp only[getCells,a3.f h.next (by rw[iU];omega) hbo];exact fO
 have avR:=a3.no (by rw[iU];omega) hbo;obtain⟨N2,h2,b1,b2,b3,b4,b5⟩:=WV hC hm.a hm.i t.hE (by omega) hb1 a3.s (by rw[bI];omega) avR (by omega);have aqF:Lu S ow h1 h2 (acc++hp t++t.env):=⟨b2,b3,b4,b5⟩;have hb2:getCells h2 h.next=some [fv]:=by simp only[getCells,aqF.f h.next (by omega) avR];exact hb1
 have ayT:=aqF.no (by omega) avR;obtain⟨sv,n3,h3,c1,c2,c3,c4⟩:=asH hC hm t.hS aqF.s (by simp only[bI];omega) hl1 (by omega) hb2 ayT (by omega);obtain⟨AX,lo3,d1,d2⟩:=ar8 (mm:=mm) (v:=fv) a2 (OT _ _) (SN _ _) (Ux _ _) c3 b1 c1 c2;obtain⟨N4,J9,NP,g4,e1,e2,e3⟩:=c4 _ _ _ _ _ _ _ _ _ _ _ _ d2;have n4:=e3.leg.n;have aBY:=e3.leg.no (by omega) ayT;obtain⟨kv,n5,h5,f1,f2,f3,f4⟩:=arb hC hm t.hK e3.leg.s (by simp only[bI];omega) hl2 e3.b aBY (by omega);obtain⟨fr5,lo5,i1,i2⟩:=ar9 (mm:=mm) e2 (Ux _ _) f3 f1 f2;obtain⟨N6,fr6,lo6,g6,j1,j2,j3⟩:=f4 _ _ _ _ _ _ _ _ _ _ _ _ i2;have n6:=j3.leg.n;obtain⟨fr7,lo7,k1,k2,k3,k4,k5,_,_,_,_,_,_,_,_,_,_,_,k6⟩:=ar5 j2 hm.l;obtain⟨z1,z2,z3,z4⟩:=e3.z g6 (λj hj=>by
  obtain⟨w1,w2,w3⟩:=e3.i j hj;exact j3.leg.f j w2 w3)
 obtain⟨y1,y2,y3,y4⟩:=j3.z z1 (λj hj=>by
  obtain⟨w1,w2,w3⟩:=j3.i j hj;exact z4 j (λhh=>by have:=(e3.i j hh).2.1;omega))
 have l0:acc.length+(hp t).length=(acc++hp t).length:=by simp
 have l1:(acc++hp t).length+t.env.length=(acc++hp t++t.env).length:=by simp[gq]
 have l2:(acc++hp t++t.env).length+(wQ t.st).length=(acc++hp t++t.env++wQ t.st).length:=by simp[gq]
 have hz:FC 2000 [jn t.kind,.int .i64 t.op,aV t.nE (MR res (acc++hp t).length t.env),jn (bif Nz t then res acc.length t.at_ else t.at_),sv,kv,.aj,.aj,jn (bif Nat.beq t.kind 3 then res acc.length t.at2 else t.at2),.int .i64 t.fail,.int .i64 t.n] g6
   [jn t.kind,.int .i64 t.op,aV t.nE (MR res (acc++hp t).length t.env),jn (bif Nz t then res acc.length t.at_ else t.at_),rS t.nS (AA res (acc++hp t++t.env).length t.st),rS t.nK (AL res (acc++hp t++t.env++wQ t.st).length t.ko),.aj,.aj,jn (bif Nat.beq t.kind 3 then res acc.length t.at2 else t.at2),.int .i64 t.fail,.int .i64 t.n] y1 :=
  .cons (zU.flat rfl _ _) (.cons (zU.flat rfl _ _) (.cons (zU.flat (U5 _ _) _ _) (.cons (zU.flat rfl _ _) (.cons z2 (.cons y2 (FC.flat rfl))))))
 have hfz:=(zU.agg hz).qo (by simp);have hend:=ar6 (mm:=mm) k2 k3 k4 k5 k6 (by
  simp only[bf,(SN t.nE (MR res (acc++hp t).length t.env)).o,c3.o,f3.o,KO,Ak,BO,aU]) hfz
 have hb:=λN=>bn (mm:=mm) (n:=N) (f:=78) (a:=[yP t,fv]) (fr:=[]) (lo:=[]) (h:=h) (by simp[ay,hm.p]) (show Tab.fns 78=some Tab.Lh from rfl) rfl;have hnt:(Tab.Lh).nt=162:=rfl;have hown6:∀j,ow g6 j->y1.get j=g6.get j:=λj hj=>by
  rw[y4 j (λhh=>(j3.i j hh).2.2 hj),z4 j (λhh=>by
   obtain⟨w1,w2,w3⟩:=e3.i j hh;exact j3.leg.no w2 w3 hj)]
 obtain⟨s1,s2⟩:=hC.mono g6 y1 _ j3.leg.s (by omega) hown6;have hL:=((hL0.trans a3).trans (aqF.trans (e3.leg.trans j3.leg)));refine⟨N2+N4+N6+2000,y1,λm=>?_,?_,by have:=hL.n;omega,λj u1 u2=>?_,λj hj=>hL.o j (s2 j hj)⟩
 .rw[show N2+N4+N6+2000+m=(N2+N4+N6+m+1699+300)+1 by omega,hb,hnt,a1,show N2+N4+N6+m+1699+296=N2+(N4+N6+m+1695)+300 by omega,d1];rw[show N2+(N4+N6+m+1695)+295=N4+(N2+N6+m+1990) by omega,e1,iO];simp only[show Nat.beq 0 0=true from rfl,cond_true];rw[iR,show N2+(N4+N6+m+1695)+297=(N2+N4+N6+m+1692)+300 by omega,i1];rw[show N2+N4+N6+m+1692+296=N6+(N2+N4+m+1988) by omega,j1,iO];simp only[show Nat.beq 2 2=true from rfl,cond_true];rw[iR,show N2+N4+N6+m+1692+298=(N2+N4+N6+m+1190)+800 by omega,k1,show N2+N4+N6+m+1190+798=(N2+N4+N6+m+1888)+100 by omega,hend];unfold thR;rw[l0,l1,l2]
 .have:acc++G7 t=acc++hp t++t.env++wQ t.st++Gz t.ko:=by unfold G7;simp only[fP]
  rw[this];exact s1
 .rw[y4 j (λhh=>by have:=(j3.i j hh).1;omega),z4 j (λhh=>by have:=(e3.i j hh).1;omega)];exact hL.f j u1 u2
end
section
variable {mm:eF}{h:H}{rid nb tb mb yU D n:Nat}
def NtS(rid:Nat)(base:List Nat)(h:H)(acc:List Nat):Prop:=rid<h.next/\∃sl,getCells h rid=some [sl]/\((base++acc=[]/\sl=.aj)\/∃id,sl=.hsl id 0 (base++acc).length none 1/\getCells h id=some ((base++acc).map jn)/\id<h.next/\id≠rid)
def NtO(rid:Nat)(h:H)(j:Nat):Prop:=j=rid\/∃sl,getCells h rid=some [sl]/\dw sl j
def apC{sl:V}{h:H}{x:Nat}(e:sl=.aj):ou h 1 sl 1 [jn x]=some (.hsl h.next 0 1 none 1,h.new (.cells [jn x])):=by subst e;rfl
def apD{h:H}{id x:Nat}{js:List Nat}(hg:getCells h id=some (js.map jn))(hl:js.length<=1000000):ou h 1 (.hsl id 0 js.length none 1) 1 [jn x]=some (.hsl h.next 0 (js.length+1) none 1,(h.del id).new (.cells (js.map jn++[jn x]))):=by
 have h1:bJ h 1 js.length (.hsl id 0 js.length none 1)=some (js.map jn):=by
  simp only[bJ,hg,show Nat.beq 1 1=true from rfl,dO (aJ _),aU,cond_true,Nat.mul_one];exact Gu (by simp)
 have h2:Nat.ble (js.length+1) 16777216=true:=dO (by omega);simp only[ou,show Nat.beq 1 0=false from rfl,show Nat.beq 1 1=true from rfl,show Nat.beq 0 0=true from rfl,cond_false,cond_true,Aq,h1,iJ,h2,xg]
def amG(h0:mm 77=none){sl sl2:V}{h2:H}(hc:getCells h rid=some [sl])(hsl:Vl sl)(hsl2:Vl sl2)(ha:ou h 1 sl 1 [jn n]=some (sl2,h2))(hc2:getCells h2 rid=some [sl])(N:Nat) :
  runM mm Tab.fns (N+100) (.app (.func (.func 77) [] [.bg rid 0]) [jn n]) [] [] h=.val (jn n) (h2.set rid (.cells [sl2])):=by
 obtain⟨f1,f2,f3,f4⟩:=hsl;obtain⟨g1,g2,g3,g4⟩:=hsl2;unfold jn at *;simp -implicitDefEqProofs only[WW];rw[bn (by simp[ay,h0]) (show Tab.fns 77=some Tab.atm from rfl) rfl];simp -implicitDefEqProofs only[Tab.atm,WW,aS,aZ,aK,dN,pad,aC.ev,bG,aF,bH,splice,bC,takeN,skip,bf,bK,Nat.reduceMul,Nat.beq,Nat.ble,finish,resV,dI,hc,hc2,g2,g3,g4,fH,bJ,xY,oO,ha,SK,chunk,elemOf,rep,IU]
def afm{base acc:List Nat}(hS:NtS rid base h acc)(n:Nat)(hb:base.length<=1000)(hK:acc.length<900000) :
  ∃sl sl2 h2,getCells h rid=some [sl]/\Vl sl/\Vl sl2/\ou h 1 sl 1 [jn n]=some (sl2,h2)/\getCells h2 rid=some [sl]/\NtS rid base (h2.set rid (.cells [sl2])) (acc++[n])/\h.next<=(h2.set rid (.cells [sl2])).next/\(∀j,j<h.next->¬NtO rid h j->(h2.set rid (.cells [sl2])).get j=h.get j)/\(∀j,NtO rid (h2.set rid (.cells [sl2])) j->NtO rid h j\/h.next<=j):=by
 obtain⟨h1,sl,h2,h3⟩:=hS;rcases h3 with⟨he,rfl⟩|⟨id,rfl,hg,hid,hne⟩
 .have hacc:(base++(acc++[n]))=[n]:=by rw[<- fP,he];rfl
  refine⟨.aj,.hsl h.next 0 1 none 1,h.new (.cells [jn n]),h2,⟨rfl,rfl,rfl,rfl⟩,⟨rfl,rfl,rfl,rfl⟩,apC rfl,(by rw[oD (by omega)];exact h2),⟨by rw[qp,iU];omega,_,gG,.inr ⟨h.next,by rw[hacc];rfl,?_,by rw[qp,iU];omega,by omega⟩⟩,by rw[qp,iU];omega,λj j1 j2=>?_,λj hj=>?_⟩
  .rw[hacc,gy (by omega)];exact fO
  .rw[eu _ (λe=>j2 (.inl e.symm)),iq _ (by omega)]
  .rcases hj with rfl|⟨sl,hh,ht⟩
   .exact .inl (.inl rfl)
   .rw[gG]at hh;cases hh;obtain⟨_,_,_,_,hh⟩:=ht;cases hh;exact .inr (aJ _)
 .have hl:(base++acc).length<=1000000:=by rw[bI];omega
  have hacc:(base++(acc++[n]))=(base++acc)++[n]:=by rw[fP]
  have hlen2:((base++acc)++[n]).length=(base++acc).length+1:=by rw[bI];rfl
  have hmap:((base++acc)++[n]).map jn=(base++acc).map jn++[jn n]:=by simp
  refine⟨_,.hsl h.next 0 ((base++acc).length+1) none 1,(h.del id).new (.cells ((base++acc).map jn++[jn n])),h2,⟨rfl,rfl,rfl,rfl⟩,⟨rfl,rfl,rfl,rfl⟩,apD hg hl,(by rw[oD (by rw[xg];omega),Tt hne];exact h2),⟨by rw[qp,iU,xg];omega,_,gG,.inr ⟨h.next,by rw[hacc,hlen2],?_,by rw[qp,iU,xg];omega,by omega⟩⟩,by rw[qp,iU,xg];omega,λj j1 j2=>?_,λj hj=>?_⟩
  .rw[hacc,gy (by omega),hmap];exact fO
  .rw[eu _ (λe=>j2 (.inl e.symm)),iq _ (by rw[xg];omega),kE (λe=>j2 (.inr ⟨_,h2,_,_,_,_,by rw[e]⟩))]
  .rcases hj with rfl|⟨sl,hh,ht⟩
   .exact .inl (.inl rfl)
   .rw[gG]at hh;cases hh;obtain⟨_,_,_,_,hh⟩:=ht;cases hh;exact .inr (aJ _)
def amF(h0:mm 77=none)(base:List Nat)(hb:base.length<=1000):U0 mm (.func (.func 77) [] [.bg rid 0]) 900000 (λ_ p=>p) (NtS rid base) (NtO rid) where
 fn:=⟨_,_,rfl⟩
 step h acc n hS hK:=by
  obtain⟨sl,sl2,h2,c1,c2,c3,c4,c5,c6,c7,c8,c9⟩:=afm hS n hb hK;exact⟨_,amG h0 c1 c2 c3 c4 c5,c6,c7,c8,c9⟩
 lt h acc j hS hj:=by
  obtain⟨h1,sl,h2,h3⟩:=hS;rcases hj with rfl|⟨sl2,hh,ht⟩
  .exact h1
  .rw[h2]at hh;cases hh;obtain⟨_,_,_,_,rfl⟩:=ht;rcases h3 with⟨_,h3⟩|⟨id,h3,_,hid,_⟩
   .cases h3
   .cases h3;exact hid
 mono h g acc hS hn hg:=by
  obtain⟨h1,sl,h2,h3⟩:=hS;have e1:getCells g rid=some [sl]:=by simp only[getCells,hg rid (.inl rfl)];exact h2
  refine⟨⟨by omega,sl,e1,?_⟩,λj hj=>?_⟩
  .rcases h3 with h3|⟨id,rfl,hgc,hid,hne⟩
   .exact .inl h3
   .refine .inr ⟨id,rfl,?_,by omega,hne⟩;simp only[getCells,hg id (.inr ⟨_,h2,_,_,_,_,rfl⟩)];exact hgc
  .rcases hj with rfl|⟨sl2,hh,ht⟩
   .exact .inl rfl
   .rw[e1]at hh;cases hh;exact .inr ⟨_,h2,ht⟩
def TkS(nb tb mb yU D:Nat)(tos:List Nat)(h:H)(acc:List Nat):Prop:=nb<h.next/\tb<h.next/\mb<h.next/\yU<h.next/\getCells h nb=some [jn acc.length]/\getCells h tb=some [.hsl yU 0 tos.length none 1]/\getCells h mb=some [jn D]/\getCells h yU=some (tos.map jn)
def TkO(nb tb mb yU:Nat)(_:H)(j:Nat):Prop:=j=nb\/j=tb\/j=mb\/j=yU
def aoc(h0:mm 80=none){tos:List Nat}{k x p:Nat}(c1:getCells h nb=some [jn k])(c2:getCells h tb=some [.hsl yU 0 tos.length none 1])(c3:getCells h mb=some [jn D])(c4:getCells h yU=some (tos.map jn))(hk:tos[k]?=some x)(n1:nb≠tb)(n2:nb≠mb)(n3:nb≠yU)(hl:tos.length<=1000000)(hx:x+D<=1000000000)(N:Nat) :
  runM mm Tab.fns (N+100) (.app (.func (.func 80) [] [.bg nb 0,.bg tb 0,.bg mb 0]) [jn p]) [] [] h=.val (jn (x+D)) (h.set nb (.cells [jn (k+1)])):=by
 have hkl:=(fB.1 hk).1;obtain⟨rest,hs⟩:∃rest,skip k (tos.map jn)=jn x::rest:=by
  refine⟨(tos.drop (k+1)).map jn,?_⟩;have e:tos[k]=x:=by rw[bV hkl]at hk;exact gZ hk
  rw[pX,<- List.map_drop,uM hkl,bD,e]
 have w1:Nat.ble k 9223372036854775806=true:=dO (by omega);have w2:Nat.ble k 9223372036854775807=true:=dO (by omega);have w3:Nat.ble (x+D) 9223372036854775807=true:=dO (by omega);have w4:Nat.ble (k+1) tos.length=true:=dO (by omega);have w5:Nat.ble 1 (k+1)=true:=dO (by omega);have w6:Int.sub (.ofNat (k+1)) (.ofNat 1)=.ofNat k:=by show((k+1:Nat):Int)-1=(k:Int);omega
 generalize tos.map jn=cs at *;generalize tos.length=L at *;unfold jn at *;simp -implicitDefEqProofs only[WW];rw[bn (by simp[ay,h0]) (show Tab.fns 80=some Tab.atq from rfl) rfl];simp -implicitDefEqProofs only[Tab.atq,WW,aS,aZ,aK,fG,pad,aC.ev,bG,aF,bH,splice,bC,skip,bf,bK,Nat.beq,Nat.blt,Nat.ble,finish,resV,dI,cO,mV,iK,eqK,OR.eU,LL9,Nat.beq,c1,c2,c3,c4,hs,w1,w2,w3,w4,w6,gG,gy,n1,n2,n3,Nat.mul_one,IU]
def aob(h0:mm 80=none){tos:List Nat}(n1:nb≠tb)(n2:nb≠mb)(n3:nb≠yU)(hl:tos.length<=1000000)(hx:∀x∈tos,x+D<=1000000000) :
  U0 mm (.func (.func 80) [] [.bg nb 0,.bg tb 0,.bg mb 0]) tos.length (λc _=>(tos[c]?).getD 0+D) (TkS nb tb mb yU D tos) (TkO nb tb mb yU) where
 fn:=⟨_,_,rfl⟩
 step h acc n hS hK:=by
  obtain⟨a1,a2,a3,a4,c1,c2,c3,c4⟩:=hS;have hk:tos[acc.length]?=some tos[acc.length]:=bV hK;refine⟨h.set nb (.cells [jn (acc.length+1)]),λN=>?_,⟨by rw[qp];omega,by rw[qp];omega,by rw[qp];omega,by rw[qp];omega,?_,by rw[gy n1];exact c2,by rw[gy n2];exact c3,by rw[gy n3];exact c4⟩,aJ _,λj _ j2=>eu _ (λe=>j2 (.inl e.symm)),λj hj=>.inl hj⟩
  .rw[hk];exact aoc h0 c1 c2 c3 c4 hk n1 n2 n3 hl (hx _ (ku hK)) N
  .rw[gG,bI];rfl
 lt h acc j hS hj:=by
  obtain⟨a1,a2,a3,a4,_⟩:=hS;rcases hj with rfl|rfl|rfl|rfl<;>assumption
 mono h g acc hS hn hg:=by
  obtain⟨a1,a2,a3,a4,c1,c2,c3,c4⟩:=hS;refine⟨⟨by omega,by omega,by omega,by omega,?_,?_,?_,?_⟩,λj hj=>hj⟩
  .simp only[getCells,hg nb (.inl rfl)];exact c1
  .simp only[getCells,hg tb (.inr (.inl rfl))];exact c2
  .simp only[getCells,hg mb (.inr (.inr (.inl rfl)))];exact c3
  .simp only[getCells,hg yU (.inr (.inr (.inr rfl)))];exact c4
end
end Go.Vx
