/- A part of the proof of TopForks. -/
import Derived.Test.YteajegmpafjbgaaGreatDoorVai
set_option linter.all false
set_option maxRecDepth 1000000
set_option maxHeartbeats 80000000
noncomputable section
namespace Go.Vx
section
open Go
mutual
def sub(ρ:V->V):V->V
 |.undef=>.undef
 |.bool b=>.bool b
 |.int k n=>.int k n
 |.str s=>.str s
 |.nilPtr=>.nilPtr
 |.aY t o=>.aY t o
 |.bg i o=>.bg i o
 |.iE cs=>.iE (subs ρ cs)
 |.aj=>.aj
 |.list xs e=>.list (subs ρ xs) e
 |.hsl a b c d e=>.hsl a b c d e
 |.fA=>.fA
 |.map i=>.map i
 |.nilFunc=>.nilFunc
 |.func fn a b=>.func fn (subs ρ a) (subs ρ b)
 |.nilIface=>.nilIface
 |.iface t v=>bif Nat.beq t 1000000 then ρ v else .iface t (sub ρ v)
 |.agg cs=>.agg (subs ρ cs)
 |.tuple cs=>.tuple (subs ρ cs)
def subs(ρ:V->V):List V->List V
 |[]=>[]
 |v::vs=>sub ρ v::subs ρ vs
end
def fM:V->Bool
 |.bool _=>true
 |.int _ _=>true
 |.str _=>true
 |.aj=>true
 |.list _ _=>true
 |_=>false
class Good (ρ:V->V):Prop where
 plain:∀v,fM (ρ v)=true
 flat:∀v,aO (ρ v)=true
variable {ρ:V->V}
mutual
def IK:∀v:V,aO v=true->nT v v=true
 |.undef,_=>by simp only[nT]
 |.bool b,_=>by cases b<;>simp[nT]
 |.int k n,_=>by simp only[nT,l7,uo];simp
 |.str s,_=>by simp only[nT,um];simp
 |.nilPtr,_=>by simp only[nT]
 |.aY _ _,_=>by simp[nT]
 |.bg _ _,h=>by simp[aO]at h
 |.iE cs,h=>by simp only[nT];exact wK cs (by simpa[aO]using h)
 |.aj,_=>by simp only[nT]
 |.list xs e,h=>by
  simp only[nT,wK xs (by simpa[aO]using h),cZ];cases e<;>rfl
 |.hsl _ _ _ _ _,h=>by simp[aO]at h
 |.fA,_=>by simp only[nT]
 |.map _,h=>by simp[aO]at h
 |.nilFunc,_=>by simp only[nT]
 |.func fn a b,h=>by
  cases fn with
  |func f =>
   simp only[aO,ah]at h;simp only[nT,wK a h.1,wK b h.2,cZ];simp
  |_=>simp[aO]at h
 |.nilIface,_=>by simp only[nT]
 |.iface t v,h=>by
  simp only[nT,IK v (by simpa[aO]using h),cZ];simp
 |.agg cs,h=>by simp only[nT];exact wK cs (by simpa[aO]using h)
 |.tuple cs,h=>by simp only[nT];exact wK cs (by simpa[aO]using h)
def wK:∀l:List V,aW l=true->Au l l=true
 |[],_=>by simp only[Au]
 |v::l,h=>by
  simp only[aW,ah]at h;simp only[Au,IK v h.1,wK l h.2,aU]
end
def nD(p:V):sub ρ (.iface 1000000 p)=ρ p:=by simp[sub]
def jH(t:Nat)(v:V):sub ρ (.iface t v)=bif Nat.beq t 1000000 then ρ v else .iface t (sub ρ v):=by simp[sub]
def Q5(l:List V):subs ρ l=l.map (sub ρ):=by
 induction l with
 |nil=>simp[subs]
 |cons v l ih=>simp[subs,ih]
def Fa:subs ρ []=[]:=by simp[subs]
def xw(v:V)(l:List V):subs ρ (v::l)=sub ρ v::subs ρ l:=by simp[subs]
def iQ(l:List V):(subs ρ l).length=l.length:=by simp[Q5]
def qY(a b:List V):subs ρ (a++b)=subs ρ a++subs ρ b:=by simp[Q5]
def jF [Good ρ](p:V):(∃b,ρ p=.bool b)\/(∃k n,ρ p=.int k n)\/(∃s,ρ p=.str s)\/ρ p=.aj\/∃xs e,ρ p=.list xs e:=by
 have h:=Good.plain (ρ:=ρ) p;cases hq:ρ p<;>rw[hq]at h<;>simp[fM]at h<;>simp
def zf [Good ρ](v:V):(sub ρ v).cells=subs ρ v.cells:=by
 cases v with
 |iface t w =>
  simp only[jH,V.cells,subs];cases Nat.beq t 1000000 with
  |false=>simp[]
  |true =>
   simp only[cond_true];rcases jF (ρ:=ρ) w with⟨b,h⟩|⟨k,n,h⟩|⟨s,h⟩|h|⟨xs,e,h⟩<;>rw[h]<;>rfl
 |_=>simp[sub,subs,V.cells]
def Kz [Good ρ](v:V):bK (sub ρ v)=bK v:=by
 cases v with
 |iface t w =>
  simp only[jH,bK];cases Nat.beq t 1000000 with
  |false=>rfl
  |true =>
   simp only[cond_true];rcases jF (ρ:=ρ) w with⟨b,h⟩|⟨k,n,h⟩|⟨s,h⟩|h|⟨xs,e,h⟩<;>rw[h]<;>rfl
 |_=>simp[sub,bK]
def arV [Good ρ](v:V):qW (sub ρ v)=qW v:=by
 cases v with
 |iface t w =>
  simp only[jH,qW];cases Nat.beq t 1000000 with
  |false=>rfl
  |true =>
   simp only[cond_true];rcases jF (ρ:=ρ) w with⟨b,h⟩|⟨k,n,h⟩|⟨s,h⟩|h|⟨xs,e,h⟩<;>rw[h]<;>rfl
 |_=>simp[sub,qW]
def EP [Good ρ]:∀l:List V,bf (subs ρ l)=bf l
 |[]=>by simp[subs,bf]
 |v::l=>by simp only[subs,bf,arV,EP l]
def wJ [Good ρ]:∀l:List V,iV (subs ρ l)=iV l
 |[]=>by simp[subs,iV]
 |v::l=>by
  cases v with
  |iface t w =>
   simp only[subs,jH,iV];cases Nat.beq t 1000000 with
   |false=>simp only[cond_false,wJ l]
   |true =>
    simp only[cond_true];rcases jF (ρ:=ρ) w with⟨b,h⟩|⟨k,n,h⟩|⟨s,h⟩|h|⟨xs,e,h⟩<;>rw[h]<;>simp only[wJ l]
  |_=>simp only[subs,sub,iV,wJ l]
def Qq [Good ρ]{α:Type}(v:V)(a:α)(f:V->α):(match sub ρ v with|.aY _ _=>a|.undef=>a|v=>f v)=match v with|.aY _ _=>a|.undef=>a|_=>f (sub ρ v):=by
 cases v with
 |iface t w =>
  simp only[jH];cases Nat.beq t 1000000 with
  |false=>rfl
  |true =>
   simp only[cond_true];rcases jF (ρ:=ρ) w with⟨b,h⟩|⟨k,n,h⟩|⟨s,h⟩|h|⟨xs,e,h⟩<;>rw[h]
 |_=>simp[sub]
def xQ:∀(l:List V) (n:Nat),aA (subs ρ l) n=sub ρ (aA l n)
 |[],n=>by simp[subs,Jb,sub]
 |v::l,0=>by simp[subs,kG]
 |v::l,n+1=>by simp only[subs,iL,xQ l n]
def Jf:∀(l:List V) (n:Nat) (v:V),lC (subs ρ l) n (sub ρ v)=subs ρ (lC l n v)
 |[],n,v=>by simp[subs,Je]
 |x::l,0,v=>by simp[subs,wW]
 |x::l,n+1,v=>by simp only[subs,su,Jf l n]
def MK:∀(cs vs:List V),bC (subs ρ cs) (subs ρ vs)=(bC cs vs).map (subs ρ)
 |cs,[]=>by cases cs<;>simp[subs,bC]
 |[],v::vs=>by simp[subs,bC]
 |c::cs,v::vs=>by
  simp only[subs,bC,MK cs vs];cases bC cs vs<;>simp[subs]
def uJ:∀(n:Nat) (cs vs:List V),splice n (subs ρ cs) (subs ρ vs)=(splice n cs vs).map (subs ρ)
 |0,cs,vs=>by simp only[splice,MK]
 |n+1,[],vs=>by simp[subs,splice]
 |n+1,c::cs,vs=>by
  simp only[subs,splice,uJ n cs vs];cases splice n cs vs<;>simp[subs]
def sH:∀(n:Nat) (cs:List V),takeN n (subs ρ cs)=(takeN n cs).map (subs ρ)
 |0,cs=>by simp[takeN,subs]
 |n+1,[]=>by simp[takeN,subs]
 |n+1,c::cs=>by
  simp only[subs,takeN,sH n cs];cases takeN n cs<;>simp[subs]
def tV:∀(n:Nat) (cs:List V),skip n (subs ρ cs)=subs ρ (skip n cs)
 |0,cs=>by simp[skip]
 |n+1,[]=>by simp[skip,subs]
 |n+1,c::cs=>by simp only[subs,skip,tV n cs]
def L8(n:Nat)(cs:List V):ng n (subs ρ cs)=(ng n cs).map (sub ρ):=by
 simp only[ng,tV];cases skip n cs<;>simp[subs]
def awE(ag:Bool)(o:Option (List V)):mk ag (o.map (subs ρ))=(mk ag o).map (sub ρ):=by
 cases o with
 |none=>rfl
 |some cs =>
  cases ag with
  |true=>simp[mk,sub]
  |false =>
   match cs with
   |[]=>simp[mk,subs]
   |[c]=>simp[mk,subs]
   |c::d::r=>simp[mk,subs]
def abN [Good ρ](x:List V):elemOf (subs ρ x)=sub ρ (elemOf x):=by
 match x with
 |[]=>simp[elemOf,subs,sub]
 |c::d::r=>simp[elemOf,subs,sub]
 |[c] =>
  cases c with
  |iface t w =>
   simp only[elemOf,subs,jH];cases Nat.beq t 1000000 with
   |false=>rfl
   |true =>
    simp only[cond_true];rcases jF (ρ:=ρ) w with⟨b,h⟩|⟨k,n,h⟩|⟨s,h⟩|h|⟨xs,e,h⟩<;>rw[h]
  |_=>simp[elemOf,subs,sub]
def J3 [Good ρ](sz:Nat):∀(n:Nat) (cs:List V),chunk sz n (subs ρ cs)=(chunk sz n cs).map (subs ρ)
 |0,cs=>by simp[chunk,subs]
 |n+1,cs=>by
  simp only[chunk,sH,tV];cases takeN sz cs with
  |none=>rfl
  |some x =>
   simp only[bT,J3 sz n];cases chunk sz n (skip sz cs)<;>simp[subs,abN]
def FU [Good ρ]:∀l:List V,oO (subs ρ l)=subs ρ (oO l)
 |[]=>by simp[subs,oO]
 |x::l=>by
  cases x with
  |iface t w =>
   simp only[subs,oO,jH];cases Nat.beq t 1000000 with
   |false=>simp only[cond_false,FU l]
   |true =>
    simp only[cond_true];rcases jF (ρ:=ρ) w with⟨b,h⟩|⟨k,n,h⟩|⟨s,h⟩|h|⟨xs,e,h⟩<;>rw[h]<;>simp only[FU l]
  |_=>simp only[subs,sub,oO,FU l,qY]
def Jr(z:List V):∀n,rep (subs ρ z) n=subs ρ (rep z n)
 |0=>by simp[rep,subs]
 |n+1=>by simp only[rep,qY,Jr z n]
def aaX [Good ρ](sz:Nat)(l:List V):xY sz (subs ρ l)=xY sz l:=by
 cases l with
 |nil=>simp[xY,subs]
 |cons x l=>simp[xY,subs,zf,iQ]
def dB(ρ:V->V)(lo:Lo):Lo:=lo.map λp=>(p.1,subs ρ p.2)
def KF:∀(lo:Lo) (t:Nat),dA (dB ρ lo) t=(dA lo t).map (subs ρ)
 |[],t=>rfl
 |(u,cs)::r,t=>by
  have:=KF r t;simp only[dB,bD,dA]at this|-;rw[this];cases Nat.beq u t<;>rfl
def F6:∀(lo:Lo) (t:Nat) (cs:List V),eP (dB ρ lo) t (subs ρ cs)=dB ρ (eP lo t cs)
 |[],t,cs=>rfl
 |(u,ds)::r,t,cs=>by
  have:=F6 r t cs;simp only[dB,bD,eP]at this|-;rw[this];cases Nat.beq u t<;>rfl
def T.map{α β:Type}(f:α->β):T α->T β
 |.leaf=>.leaf
 |.node o l r=>.node (o.map f) (l.map f) (r.map f)
def T.get_map{α β:Type}(f:α->β):∀(t:T α) (i:Nat),(t.map f).get i=(t.get i).map f
 |.leaf,i=>rfl
 |.node o l r,i=>by
  simp only[T.map,T.get,T.get_map f l,T.get_map f r];cases Nat.beq i 0<;>cases Nat.beq (i%2) 1<;>rfl
def T.yX{α β:Type}(f:α->β)(o:Option α):∀(n:Nat) (t:T α) (i:Nat),T.oI (o.map f) n (t.map f) i=(T.oI o n t i).map f
 |0,t,i=>rfl
 |n+1,.leaf,i=>by
  have h1:=T.yX f o n .leaf (i / 2);have h2:=T.yX f o n .leaf (i / 2-1);simp only[T.map]at h1 h2;simp only[T.map,T.oI,h1,h2];cases Nat.beq i 0<;>cases Nat.beq (i%2) 1<;>rfl
 |n+1,.node p l r,i=>by
  simp only[T.map,T.oI,T.yX f o n];cases Nat.beq i 0<;>cases Nat.beq (i%2) 1<;>rfl
def aQ(ρ:V->V):aC->aC
 |.tmp t=>.tmp t
 |.const v=>.const (sub ρ v)
def G6(ρ:V->V):Option aC->Option aC
 |none=>none
 |some x=>some (aQ ρ x)
def Ce(ρ:V->V):List aC->List aC
 |[]=>[]
 |x::l=>aQ ρ x::Ce ρ l
def DU(ρ:V->V):List (Nat×Nat×aC)->List (Nat×Nat×aC)
 |[]=>[]
 |(a,b,x)::l=>(a,b,aQ ρ x)::DU ρ l
def iD(ρ:V->V):oM->oM
 |.mv x=>.mv (aQ ρ x)
 |.pick c a b=>.pick (aQ ρ c) (aQ ρ a) (aQ ρ b)
 |.alloc z=>.alloc (subs ρ z)
 |.jy z=>.jy (subs ρ z)
 |.CJ x=>.CJ (aQ ρ x)
 |.Gw x=>.Gw (aQ ρ x)
 |.build z ps=>.build (subs ρ z) (DU ρ ps)
 |.lit z a b ps=>.lit (subs ρ z) a b (DU ρ ps)
 |.qR a=>.qR (aQ ρ a)
 |.qI n a=>.qI n (aQ ρ a)
 |.store n a x=>.store n (aQ ρ a) (aQ ρ x)
 |.tK x=>.tK (aQ ρ x)
 |.eq n c x y=>.eq n c (aQ ρ x) (aQ ρ y)
 |.bin op x y=>.bin op (aQ ρ x) (aQ ρ y)
 |.not x=>.not (aQ ρ x)
 |.neg x=>.neg (aQ ρ x)
 |.mM k x=>.mM k (aQ ρ x)
 |.zN x=>.zN (aQ ρ x)
 |.Ic x=>.Ic (aQ ρ x)
 |.nG x=>.nG (aQ ρ x)
 |.toStr x=>.toStr (aQ ρ x)
 |.pF t x=>.pF t (aQ ρ x)
 |.l9 f a b=>.l9 f (Ce ρ a) (Ce ρ b)
 |.mkMap=>.mkMap
 |.mkSlice z l c=>.mkSlice (subs ρ z) (aQ ρ l) (aQ ρ c)
 |.slice s n x l h m=>.slice s n (aQ ρ x) (G6 ρ l) (G6 ρ h) (G6 ρ m)
 |.fieldAddr o x=>.fieldAddr o (aQ ρ x)
 |.field a o n x=>.field a o n (aQ ρ x)
 |.ji n x i=>.ji n (aQ ρ x) (aQ ρ i)
 |.wS s n x i=>.wS s n (aQ ρ x) (aQ ρ i)
 |.index x i=>.index (aQ ρ x) (aQ ρ i)
 |.uw a s n x i=>.uw a s n (aQ ρ x) (aQ ρ i)
 |.lookup kc z ok m k=>.lookup kc (sub ρ z) ok (aQ ρ m) (aQ ρ k)
 |.vI kc m k x=>.vI kc (aQ ρ m) (aQ ρ k) (aQ ρ x)
 |.wY kc z m k=>.wY kc (sub ρ z) (aQ ρ m) (aQ ρ k)
 |.oz m s x=>.oz (aQ ρ m) (aQ ρ s) (aQ ρ x)
 |.extract i x=>.extract i (aQ ρ x)
 |.len c x=>.len c (aQ ρ x)
 |.cap x=>.cap (aQ ρ x)
 |.max x y=>.max (aQ ρ x) (aQ ρ y)
 |.min x y=>.min (aQ ρ x) (aQ ρ y)
 |.append n x y=>.append n (aQ ρ x) (aQ ρ y)
 |.qE z x n=>.qE (subs ρ z) (aQ ρ x) (aQ ρ n)
 |.copy n x y=>.copy n (aQ ρ x) (aQ ρ y)
 |.clear z x=>.clear (subs ρ z) (aQ ρ x)
 |.qJ x y=>.qJ (aQ ρ x) (aQ ρ y)
 |.ni z l c=>.ni (subs ρ z) (aQ ρ l) (aQ ρ c)
 |.rU n x y=>.rU n (aQ ρ x) (aQ ρ y)
 |.recover=>.recover
 |.bad=>.bad
def Cc(ρ:V->V):Ins->Ins
 |.op d o=>.op d (iD ρ o)
 |.call d f a0s=>.call d f (Ce ρ a0s)
 |.dyn d f a0s=>.dyn d (aQ ρ f) (Ce ρ a0s)
 |.defer ids f a0s=>.defer ids (aQ ρ f) (Ce ρ a0s)
 |.grd t b d i=>.grd t b d (Cc ρ i)
 |.chk g t o=>.chk g t (iD ρ o)
def yB(ρ:V->V):List Ins->List Ins
 |[]=>[]
 |i::l=>Cc ρ i::yB ρ l
def lF(ρ:V->V):aN->aN
 |.skip=>.skip
 |.region l=>.region (yB ρ l)
 |.draw l=>.draw (yB ρ l)
 |.seq a b=>.seq (lF ρ a) (lF ρ b)
 |.cond c a b=>.cond (aQ ρ c) (lF ρ a) (lF ρ b)
 |.block i c=>.block i (lF ρ c)
 |.loop c=>.loop (lF ρ c)
 |.rangeFunc f ps a b=>.rangeFunc (aQ ρ f) ps (lF ρ a) (lF ρ b)
 |.exit i=>.exit i
 |.scope c=>.scope (lF ρ c)
 |.label l=>.label l
 |.goto l=>.goto l
 |.ret=>.ret
def E9(ρ:V->V)(es:List (V×V)):List (V×V):=es.map λp=>(sub ρ p.1,sub ρ p.2)
def Xy(ρ:V->V)(l:Ee):Ee:=⟨l.st,l.pending,subs ρ l.fr,l.params,lF ρ l.assign,lF ρ l.body⟩
def SE(ρ:V->V):Obj->Obj
 |.cells cs=>.cells (subs ρ cs)
 |.map es=>.map (E9 ρ es)
 |.loop l=>.loop (Xy ρ l)
def dG(ρ:V->V)(h:H):H:=⟨h.next,h.objs.map (SE ρ)⟩
def xq(h:H):(dG ρ h).next=h.next:=rfl
def JB(h:H)(i:Nat):(dG ρ h).get i=(h.get i).map (SE ρ):=T.get_map _ _ _
def JC(h:H)(i:Nat)(o:Obj):(dG ρ h).set i (SE ρ o)=dG ρ (h.set i o):=by
 simp only[H.set,dG,T.put,<- T.yX,bT]
def JA(h:H)(i:Nat):(dG ρ h).del i=dG ρ (h.del i):=by
 simp only[H.del,dG,T.put,<- T.yX,dW]
def Cb(h:H)(o:Obj):(dG ρ h).new (SE ρ o)=dG ρ (h.new o):=by
 simp only[H.new,dG,T.put,<- T.yX,bT]
def lH(h:H)(i:Nat):getCells (dG ρ h) i=(getCells h i).map (subs ρ):=by
 simp only[getCells,JB];cases h.get i with
 |none=>rfl
 |some o=>cases o<;>rfl
def zu(h:H)(i:Nat):gK (dG ρ h) i=(gK h i).map (E9 ρ):=by
 simp only[gK,JB];cases h.get i with
 |none=>rfl
 |some o=>cases o<;>rfl
def xO(h:H)(i:Nat):getLoop (dG ρ h) i=(getLoop h i).map (Xy ρ):=by
 simp only[getLoop,JB];cases h.get i with
 |none=>rfl
 |some o=>cases o<;>rfl
def fV(x:aC)(fr:List V):(aQ ρ x).ev (subs ρ fr)=sub ρ (x.ev fr):=by
 cases x with
 |tmp t=>exact xQ fr t
 |const v=>rfl
def NG:∀(l:List aC) (fr:List V),aC.evs (Ce ρ l) (subs ρ fr)=subs ρ (aC.evs l fr)
 |[],fr=>by simp[Ce,aC.evs,subs]
 |x::l,fr=>by simp only[Ce,aC.evs,subs,fV,NG l fr]
def aqj(o:Option aC)(fr:List V):D7 (G6 ρ o) (subs ρ fr)=(D7 o fr).map (sub ρ):=by
 cases o with
 |none=>rfl
 |some x=>simp[D7,G6,fV]
def XB(ρ:V->V):OR->OR
 |.fail=>.fail
 |.ok v lo h=>.ok (sub ρ v) (dB ρ lo) (dG ρ h)
def dS(ρ:V->V)(a b:OR):Prop:=a≠.fail->b=XB ρ a
def dS.fail(b:OR):dS ρ .fail b:=λh=>absurd rfl h
def dS.ok(v:V)(lo:Lo)(h:H){b:OR}(hb:b=.ok (sub ρ v) (dB ρ lo) (dG ρ h)):dS ρ (.ok v lo h) b:=λ_=>hb
def dS.eU{o o':Option V}{lo:Lo}{h:H}(ho:∀v,o=some v->o'=some (sub ρ v)):dS ρ (OR.eU o lo h) (OR.eU o' (dB ρ lo) (dG ρ h)):=by
 cases o with
 |none=>exact dS.fail _
 |some v=>rw[ho v rfl];exact λ_=>rfl
end
section
open Go
variable {ρ:V->V}[Good ρ]{lo:Lo}{h:H}{fr:List V}
def aAo(x:aC):dS ρ (Qu x fr lo h) (Qu (aQ ρ x) (subs ρ fr) (dB ρ lo) (dG ρ h)):=λ_=>by simp only[Qu,fV,XB]
def asr(c a b:aC):dS ρ (vS c a b fr lo h) (vS (aQ ρ c) (aQ ρ a) (aQ ρ b) (subs ρ fr) (dB ρ lo) (dG ρ h)):=by
 simp only[vS,fV];generalize c.ev fr=C;cases C with
 |bool t=>cases t<;>simp only[sub]<;>exact λ_=>rfl
 |_=>exact dS.fail _
def anm(d:Nat)(z:List V):dS ρ (Gi d z fr lo h) (Gi d (subs ρ z) (subs ρ fr) (dB ρ lo) (dG ρ h)):=λ_=>by simp only[Gi,XB,sub,F6]
def aiw(z:List V):dS ρ (zH z fr lo h) (zH (subs ρ z) (subs ρ fr) (dB ρ lo) (dG ρ h)):=λ_=>by
 simp only[zH,XB,sub,xq,<- Cb,SE]
def Gs{X:V}{f g:V->OR}(hfg:X≠.undef->dS ρ (f X) (g (sub ρ X))):dS ρ (match(generalizing:=false) X with|.aY _ _=>.fail|.undef=>.fail|v=>f v) (match(generalizing:=false) sub ρ X with|.aY _ _=>.fail|.undef=>.fail|v=>g v):=by
 have hn:=Qq (ρ:=ρ) X OR.fail g;cases X with
 |undef=>exact dS.fail _
 |aY _ _=>exact dS.fail _
 |_=>exact λhne=>hn.trans (hfg (by intro h;cases h) hne)
def aso(d:Nat)(x:aC):dS ρ (AP d x fr lo h) (AP d (aQ ρ x) (subs ρ fr) (dB ρ lo) (dG ρ h)):=by
 simp only[AP,fV];generalize x.ev fr=X;refine Gs (ρ:=ρ) (f:=λv=>.ok (.aY d 0) (eP lo d v.cells) h) (g:=λv=>.ok (.aY d 0) (eP (dB ρ lo) d v.cells) (dG ρ h)) λ_=>dS.ok _ _ _ ?_;simp only[sub,zf,F6]
def asn(x:aC):dS ρ (Dq x fr lo h) (Dq (aQ ρ x) (subs ρ fr) (dB ρ lo) (dG ρ h)):=by
 simp only[Dq,fV];generalize x.ev fr=X;refine Gs (ρ:=ρ) (f:=λv=>.ok (.bg h.next 0) lo (h.new (.cells v.cells))) (g:=λv=>.ok (.bg (dG ρ h).next 0) (dB ρ lo) ((dG ρ h).new (.cells v.cells))) λ_=>dS.ok _ _ _ ?_;simp only[sub,zf,<- Cb,SE,xq]
def O9:∀(ps:List (Nat×Nat×aC)) (cells:List V) (cs:List V),fill cells ps fr=some cs->fill (subs ρ cells) (DU ρ ps) (subs ρ fr)=some (subs ρ cs)
 |[],cells,cs,e=>by simp only[fill,aG]at e;subst e;simp[fill,DU]
 |(off,sz,x)::r,cells,cs,e=>by
  simp only[fill,DU,fV]at e|-;generalize x.ev fr=X at e|-;have hc:=zf (ρ:=ρ) X;have key:(bif Nat.beq X.cells.length sz then(match splice off cells X.cells with|some cs=>fill cs r fr|none=>none)else none)=some cs->(bif Nat.beq (sub ρ X).cells.length sz then(match splice off (subs ρ cells) (sub ρ X).cells with|some cs=>fill cs (DU ρ r) (subs ρ fr)|none=>none)else none)=some (subs ρ cs):=by
   intro e;rw[hc,iQ,uJ];cases hb:Nat.beq X.cells.length sz with
   |false=>rw[hb]at e;cases e
   |true =>
    rw[hb]at e;simp only[cond_true]at e|-;cases hs:splice off cells X.cells with
    |none=>rw[hs]at e;cases e
    |some c2=>rw[hs]at e;exact O9 r c2 cs e
  have:=Qq (ρ:=ρ) X (none:Option (List V)) (λv=>bif Nat.beq v.cells.length sz then(match splice off (subs ρ cells) v.cells with|some cs=>fill cs (DU ρ r) (subs ρ fr)|none=>none)else none);refine Eq.trans this ?_;cases X with
  |undef=>cases e
  |aY _ _=>cases e
  |_=>exact key e
def ano(z:List V)(ps:List (Nat×Nat×aC)):dS ρ (xE z ps fr lo h) (xE (subs ρ z) (DU ρ ps) (subs ρ fr) (dB ρ lo) (dG ρ h)):=by
 simp only[xE];cases he:fill z ps fr with
 |none=>exact dS.fail _
 |some cs=>rw[O9 ps z cs he];exact dS.ok _ _ _ (by simp only[sub])
def axf(z:List V)(sz n:Nat)(ps:List (Nat×Nat×aC)):dS ρ (GX z sz n ps fr lo h) (GX (subs ρ z) sz n (DU ρ ps) (subs ρ fr) (dB ρ lo) (dG ρ h)):=by
 simp only[GX,Jr];cases he:fill (rep z n) ps fr with
 |none=>exact dS.fail _
 |some cs =>
  rw[O9 ps _ cs he];simp only[J3];cases chunk sz n cs with
  |none=>exact dS.fail _
  |some xs=>exact dS.ok _ _ _ (by simp only[sub,bT])
def Ei{a:V}{cs:List V}(e:aF a lo h=some cs):aF (sub ρ a) (dB ρ lo) (dG ρ h)=some (subs ρ cs):=by
 cases a with
 |aY t off =>
  simp only[aF,sub,KF]at e|-;cases hg:dA lo t with
  |none=>rw[hg]at e;cases e
  |some c=>rw[hg]at e;cases e;simp only[bT,tV]
 |bg id off =>
  simp only[aF,sub,lH]at e|-;cases hg:getCells h id with
  |none=>rw[hg]at e;cases e
  |some c=>rw[hg]at e;cases e;simp only[bT,tV]
 |iE c=>simp only[aF,aG]at e;subst e;simp only[aF,sub]
 |_=>cases e
def ant(a:aC):dS ρ (vO a fr lo h) (vO (aQ ρ a) (subs ρ fr) (dB ρ lo) (dG ρ h)):=by
 simp only[vO,fV];cases he:aF (a.ev fr) lo h with
 |none=>exact dS.fail _
 |some cs =>
  rw[Ei he];cases cs with
  |nil=>exact dS.fail _
  |cons c cs=>simp only[subs];exact dS.ok _ _ _ rfl
def anu(sz:Nat)(a:aC):dS ρ (vP sz a fr lo h) (vP sz (aQ ρ a) (subs ρ fr) (dB ρ lo) (dG ρ h)):=by
 simp only[vP,fV];cases he:aF (a.ev fr) lo h with
 |none=>exact dS.fail _
 |some cs =>
  rw[Ei he];simp only[sH];cases takeN sz cs with
  |none=>exact dS.fail _
  |some r=>exact dS.ok _ _ _ (by simp only[sub,bT])
def adD(a:V)(vs:List V):dS ρ (bH a vs lo h) (bH (sub ρ a) (subs ρ vs) (dB ρ lo) (dG ρ h)):=by
 cases a with
 |aY t off =>
  simp only[bH,sub,KF];cases dA lo t with
  |none=>exact dS.fail _
  |some cs =>
   simp only[bT,uJ];cases splice off cs vs with
   |none=>exact dS.fail _
   |some c2=>exact dS.ok _ _ _ (by simp only[sub,F6,bT])
 |bg id off =>
  simp only[bH,sub,lH];cases getCells h id with
  |none=>exact dS.fail _
  |some cs =>
   simp only[bT,uJ];cases splice off cs vs with
   |none=>exact dS.fail _
   |some c2=>exact dS.ok _ _ _ (by simp only[sub,<- JC,SE,bT])
 |_=>exact dS.fail _
def anA(sz:Nat)(a x:aC):dS ρ (lq sz a x fr lo h) (lq sz (aQ ρ a) (aQ ρ x) (subs ρ fr) (dB ρ lo) (dG ρ h)):=by
 simp only[lq,fV];generalize x.ev fr=X;refine Gs (ρ:=ρ) (f:=λv=>bif Nat.beq v.cells.length sz&&bf v.cells then bH (a.ev fr) v.cells lo h else .fail) (g:=λv=>bif Nat.beq v.cells.length sz&&bf v.cells then bH (sub ρ (a.ev fr)) v.cells (dB ρ lo) (dG ρ h)else .fail) λ_=>?_;simp only[zf,iQ,EP];cases Nat.beq X.cells.length sz&&bf X.cells with
 |false=>exact dS.fail _
 |true=>exact adD _ _
def anx(x:aC):dS ρ (ug x fr lo h) (ug (aQ ρ x) (subs ρ fr) (dB ρ lo) (dG ρ h)):=by
 simp only[ug,fV];generalize x.ev fr=X;cases X with
 |nilPtr=>exact dS.fail _
 |nilFunc=>exact dS.fail _
 |nilIface=>exact dS.fail _
 |undef=>exact dS.fail _
 |iface t w =>
  refine dS.ok _ _ _ ?_;simp only[jH];cases Nat.beq t 1000000 with
  |false=>rfl
  |true =>
   simp only[cond_true];rcases jF (ρ:=ρ) w with⟨b,h⟩|⟨k,n,h⟩|⟨s,h⟩|h|⟨xs,e,h⟩<;>rw[h]
 |_=>exact dS.ok _ _ _ (by simp only[sub])
def J5{x y:V}{b:Bool}(e:fU x y=some b):sub ρ x=x/\sub ρ y=y:=by
 cases x with
 |int k n=>cases y<;>first|(cases e;done)|(simp only[sub,and_self])
 |str s=>cases y<;>first|(cases e;done)|(simp only[sub,and_self])
 |_=>cases e
def OY{x y:V}{b:Bool}(e:sS x y=some b):sub ρ x=x/\sub ρ y=y:=by
 cases x with
 |bool k=>cases y<;>first|(simp[sS]at e;done)|(simp only[sub,and_self])
 |_=>simp[sS]at e
def Tf{x y:V}{b:Bool}(e:jY h x y=some b):jY (dG ρ h) (sub ρ x) (sub ρ y)=some b:=by
 cases x with
 |nilPtr=>cases y<;>first|(simp[jY]at e;done)|(simp only[sub,jY]at e|-;exact e)
 |aY _ _=>cases y<;>first|(simp[jY]at e;done)|(simp only[sub,jY]at e|-;exact e)
 |iE _=>cases y<;>first|(simp[jY]at e;done)|(simp only[sub,jY]at e|-;exact e)
 |bg a o =>
  cases y with
  |nilPtr=>simp only[sub,jY]at e|-;exact e
  |bg b' p =>
   simp only[sub,jY,lH]at e|-;cases h1:getCells h a with
   |none=>rw[h1]at e;cases e
   |some cs =>
    rw[h1]at e;simp only[bT]at e|-;cases h2:getCells h b' with
    |none=>rw[h2]at e;cases e
    |some ds =>
     rw[h2]at e;simp only[bT,iQ]at e|-;exact e
  |_=>simp[jY]at e
 |_=>simp[jY]at e
def akM{x y:V}{b:Bool}(e:uV x y=some b):uV (sub ρ x) (sub ρ y)=some b:=by
 cases x with
 |aj=>cases y<;>first|(cases e;done)|(simp only[sub,uV]at e|-;exact e)
 |list _ _=>cases y<;>first|(cases e;done)|(simp only[sub,uV]at e|-;exact e)
 |hsl _ _ _ _ _=>cases y<;>first|(cases e;done)|(simp only[sub,uV]at e|-;exact e)
 |_=>cases e
def agF{x y:V}{b:Bool}(e:Ad x y=some b):Ad (sub ρ x) (sub ρ y)=some b:=by
 cases x with
 |fA=>cases y<;>first|(cases e;done)|(simp only[sub,Ad]at e|-;exact e)
 |map _=>cases y<;>first|(cases e;done)|(simp only[sub,Ad]at e|-;exact e)
 |_=>cases e
def akI{x y:V}{b:Bool}(e:eqFn x y=some b):eqFn (sub ρ x) (sub ρ y)=some b:=by
 cases x with
 |nilFunc=>cases y<;>first|(cases e;done)|(simp only[sub,eqFn]at e|-;exact e)
 |func _ _ _=>cases y<;>first|(cases e;done)|(simp only[sub,eqFn]at e|-;exact e)
 |_=>cases e
def akJ{x y:V}{b:Bool}(e:DJ x y=some b):DJ (sub ρ x) (sub ρ y)=some b:=by
 cases x with
 |nilIface =>
  cases y with
  |nilIface=>simp only[sub];exact e
  |iface t v =>
   cases hb:Nat.beq t 1000000 with
   |true=>simp[DJ,ED,hb]at e
   |false =>
    simp only[DJ,ED,hb,DW,sub,cond_false,Bool.or_false]at e|-;exact e
  |_=>simp[DJ,ED,DW]at e
 |iface t v =>
  cases y with
  |nilIface =>
   cases hb:Nat.beq t 1000000 with
   |true=>simp[DJ,ED,hb]at e
   |false =>
    simp only[DJ,ED,hb,DW,sub,cond_false,Bool.or_false]at e|-;exact e
  |iface t2 v2=>exact absurd (zo e) (by simp[DW])
  |_=>exact absurd (zo e) (by simp[DW])
 |_=>exact absurd (zo e) (by simp[DW])
def aqc{cls:Nat}{x y:V}{b:Bool}(e:nH h cls x y=some b):nH (dG ρ h) cls (sub ρ x) (sub ρ y)=some b:=by
 match cls with
 |0=>have:=J5 (ρ:=ρ) (x:=x) (y:=y) e;rw[this.1,this.2];exact e
 |1=>have:=OY (ρ:=ρ) (x:=x) (y:=y) e;rw[this.1,this.2];exact e
 |2=>exact Tf e
 |3=>exact akM e
 |4=>exact agF e
 |5=>exact akI e
 |6=>exact akJ e
 |n+7=>cases e
def aqh{x y:V}{b:Bool}(e:eqV h x y=some b):eqV (dG ρ h) (sub ρ x) (sub ρ y)=some b:=by
 cases x with
 |bg a o =>
  have e2:jY h (.bg a o) y=some b:=e;have e3:=Tf (ρ:=ρ) e2;have hs:sub ρ (.bg a o)=.bg a o:=by simp only[sub]
  rw[hs]at e3|-;exact e3
 |bool c=>have e2:sS (.bool c) y=some b:=e;have:=OY (ρ:=ρ) e2;rw[this.1,this.2];exact e
 |int k n=>have e2:fU (.int k n) y=some b:=e;have:=J5 (ρ:=ρ) e2;rw[this.1,this.2];exact e
 |str s=>have e2:fU (.str s) y=some b:=e;have:=J5 (ρ:=ρ) e2;rw[this.1,this.2];exact e
 |_=>simp[eqV,fU]at e
def aAn(neg:Bool)(cls:Nat)(x y:aC):dS ρ (zY neg cls x y fr lo h) (zY neg cls (aQ ρ x) (aQ ρ y) (subs ρ fr) (dB ρ lo) (dG ρ h)):=by
 simp only[zY,fV];refine dS.eU λv e=>?_;cases hq:nH h cls (x.ev fr) (y.ev fr)with
 |none=>rw[hq]at e;cases neg<;>cases e
 |some b=>rw[hq]at e;rw[aqc hq];cases neg<;>cases e<;>simp[gX,jU,sub]
def IC{f:Int->Int->Bool}{x y v:V}(e:dD f x y=some v):sub ρ x=x/\sub ρ y=y/\sub ρ v=v:=by
 cases x with
 |int k n =>
  cases y with
  |int l m =>
   simp only[dD]at e;cases hb:eqK k l with
   |false=>rw[hb]at e;cases e
   |true=>rw[hb]at e;cases e;simp[sub]
  |_=>simp[dD]at e
 |_=>simp[dD]at e
def Ny{f:Int->Int->Int}{x y v:V}(e:mV f x y=some v):sub ρ x=x/\sub ρ y=y/\sub ρ v=v:=by
 cases x with
 |int k n =>
  cases y with
  |int l m =>
   simp only[mV]at e;cases hb:eqK k l with
   |false=>rw[hb]at e;cases e
   |true=>rw[hb]at e;cases e;simp[sub]
  |_=>simp[mV]at e
 |_=>simp[mV]at e
def amj{x y v:V}(e:eH x y=some v):sub ρ x=x/\sub ρ y=y/\sub ρ v=v:=by
 cases x with
 |str a =>
  cases y with
  |str b=>simp only[eH,aG]at e;subst e;simp[sub]
  |_=>simp[eH]at e
 |_=>exact IC (f:=wX) e
def ajx{x y v:V}(e:iK x y=some v):sub ρ x=x/\sub ρ y=y/\sub ρ v=v:=by
 cases x with
 |str a =>
  cases y with
  |str b =>
   simp only[iK]at e;cases hb:Nat.blt (a.length+b.length) 4294967296 with
   |false=>rw[hb]at e;cases e
   |true=>rw[hb]at e;cases e;simp[sub]
  |_=>simp[iK]at e
 |_=>exact Ny (f:=Int.add) e
def anc{x y v:V}(e:qw x y=some v):sub ρ x=x/\sub ρ y=y/\sub ρ v=v:=by
 cases y with
 |int l m =>
  simp only[qw]at e;cases hb:sK m 0 with
  |true=>rw[hb]at e;cases e
  |false=>rw[hb]at e;exact Ny e
 |_=>simp[qw]at e
def ani{x y v:V}(e:nM x y=some v):sub ρ x=x/\sub ρ y=y/\sub ρ v=v:=by
 cases x with
 |int k n =>
  cases y with
  |int l m =>
   simp only[nM]at e;cases hb:sK m 0||!(eqK k l)with
   |true=>rw[hb]at e;cases e
   |false=>rw[hb]at e;cases e;simp[sub]
  |_=>simp[nM]at e
 |_=>simp[nM]at e
def anR{x y v:V}(e:qx x y=some v):sub ρ x=x/\sub ρ y=y/\sub ρ v=v:=by
 cases x with
 |int k n =>
  cases y with
  |int l m =>
   simp only[qx]at e;cases hb:wX m 0 with
   |true=>rw[hb]at e;cases e
   |false=>rw[hb]at e;cases e;simp[sub]
  |_=>simp[qx]at e
 |_=>simp[qx]at e
def anT{x y v:V}(e:qy x y=some v):sub ρ x=x/\sub ρ y=y/\sub ρ v=v:=by
 cases x with
 |int k n =>
  cases y with
  |int l m =>
   simp only[qy]at e;cases hb:wX m 0 with
   |true=>rw[hb]at e;cases e
   |false=>rw[hb]at e;cases e;simp[sub]
  |_=>simp[qy]at e
 |_=>simp[qy]at e
def ajM{op:BinOp}{x y v:V}(e:cO op x y=some v):sub ρ x=x/\sub ρ y=y/\sub ρ v=v:=by
 cases op with
 |lss=>exact amj e
 |leq=>exact IC e
 |gtr=>exact IC e
 |geq=>exact IC e
 |add=>exact ajx e
 |sub=>exact Ny e
 |mul=>exact Ny e
 |quo=>exact anc e
 |rem=>exact ani e
 |shl=>exact anR e
 |shr=>exact anT e
 |_=>cases e
def axc(op:BinOp)(x y:aC):dS ρ (xR op x y fr lo h) (xR op (aQ ρ x) (aQ ρ y) (subs ρ fr) (dB ρ lo) (dG ρ h)):=by
 simp only[xR,fV];refine dS.eU λv e=>?_;obtain⟨h1,h2,h3⟩:=ajM (ρ:=ρ) e;rw[h1,h2,h3];exact e
def axj(x:aC):dS ρ (GY x fr lo h) (GY (aQ ρ x) (subs ρ fr) (dB ρ lo) (dG ρ h)):=by
 simp only[GY,fV];generalize x.ev fr=X;cases X with
 |bool b=>simp only[sub];exact dS.ok _ _ _ (by simp only[sub])
 |_=>exact dS.fail _
def axi(x:aC):dS ρ (BQ x fr lo h) (BQ (aQ ρ x) (subs ρ fr) (dB ρ lo) (dG ρ h)):=by
 simp only[BQ,fV];generalize x.ev fr=X;cases X with
 |int k n=>simp only[sub];exact dS.ok _ _ _ (by simp only[sub])
 |_=>exact dS.fail _
def adz(k:IntKind)(x:aC):dS ρ (lg k x fr lo h) (lg k (aQ ρ x) (subs ρ fr) (dB ρ lo) (dG ρ h)):=by
 simp only[lg,fV];generalize x.ev fr=X;cases X with
 |int k n=>simp only[sub];exact dS.ok _ _ _ (by simp only[sub])
 |_=>exact dS.fail _
def anB(x:aC):dS ρ (sF x fr lo h) (sF (aQ ρ x) (subs ρ fr) (dB ρ lo) (dG ρ h)):=by
 simp only[sF,fV];generalize x.ev fr=X;cases X with
 |str s=>simp only[sub];exact dS.ok _ _ _ (by simp only[sub])
 |_=>exact dS.fail _
def asu(x:aC):dS ρ (xk x fr lo h) (xk (aQ ρ x) (subs ρ fr) (dB ρ lo) (dG ρ h)):=by
 simp only[xk,fV];generalize x.ev fr=X;cases X with
 |list xs ex =>
  simp only[sub];cases xs with
  |nil=>exact dS.fail _
  |cons y ys =>
   simp only[subs];cases y with
   |int k n =>
    simp only[EC,sub,cond_true];exact dS.ok _ _ _ (by simp only[sub,subs])
   |_=>exact dS.fail _
 |_=>exact dS.fail _
def EN:∀s:List Nat,subs ρ (ofBytes s)=ofBytes s
 |[]=>by simp[ofBytes,subs]
 |b::s=>by simp only[ofBytes,subs,sub,EN s]
def adE(x:aC):dS ρ (jE x fr lo h) (jE (aQ ρ x) (subs ρ fr) (dB ρ lo) (dG ρ h)):=by
 simp only[jE,fV];generalize x.ev fr=X;cases X with
 |str s=>simp only[sub];exact dS.ok _ _ _ (by simp only[sub,EN])
 |_=>exact dS.fail _
def Eh:∀(l:List V) (r:List Nat),bytesOf l=some r->subs ρ l=l
 |[],_,_=>by simp[subs]
 |v::l,r,e=>by
  cases v with
  |int k n =>
   cases k with
   |u8 =>
    cases n with
    |ofNat n =>
     simp only[bytesOf]at e;cases hb:Nat.blt n 256 with
     |false=>rw[hb]at e;cases e
     |true =>
      rw[hb]at e;simp only[cond_true]at e;cases hl:bytesOf l with
      |none=>rw[hl]at e;cases e
      |some q=>simp only[subs,sub,Eh l q hl]
    |negSucc n=>simp[bytesOf]at e
   |_=>simp[bytesOf]at e
  |_=>simp[bytesOf]at e
def UJ(n:Nat)(o:Option (List V))(off:Nat):yC n (o.map (subs ρ)) off=(yC n o off).map (subs ρ):=by
 cases o with
 |none=>rfl
 |some cs=>simp only[bT,yC,tV,sH]
def Ef{v:V}{s:List Nat}(e:bytesIn h v=some s):bytesIn (dG ρ h) (sub ρ v)=some s:=by
 cases v with
 |aj=>simp only[sub,bytesIn]at e|-;exact e
 |list xs ex=>simp only[sub,bytesIn]at e|-;rw[Eh xs s e];exact e
 |hsl id off len c sz =>
  simp only[sub,bytesIn,lH,UJ]at e|-;cases ht:yC len (getCells h id) off with
  |none=>rw[ht]at e;cases e
  |some cs=>rw[ht]at e;simp only[bT];rw[Eh cs s e];exact e
 |_=>simp[bytesIn]at e
def anC(x:aC):dS ρ (uj x fr lo h) (uj (aQ ρ x) (subs ρ fr) (dB ρ lo) (dG ρ h)):=by
 simp only[uj,fV];cases he:bytesIn h (x.ev fr)with
 |none=>exact dS.fail _
 |some s=>rw[Ef he];exact dS.ok _ _ _ (by simp only[sub])
def adC(t:Nat)(x:aC):dS ρ (lU t x fr lo h) (lU t (aQ ρ x) (subs ρ fr) (dB ρ lo) (dG ρ h)):=by
 simp only[lU,fV];generalize x.ev fr=X;cases hb:Nat.beq t 1000000 with
 |true=>cases X<;>exact dS.fail _
 |false =>
  have hl:=Kz (ρ:=ρ) X;have key:∀Y:V,bK Y=false->(match Y with|.aY _ _=>OR.fail|v=>bif false then .fail else .ok (.iface t v) (dB ρ lo) (dG ρ h))=.ok (.iface t Y) (dB ρ lo) (dG ρ h):=by
   intro Y hY;cases Y<;>first|rfl|cases hY
  cases X with
  |aY _ _=>exact dS.fail _
  |undef=>simp only[sub];exact dS.ok _ _ _ (by simp only[sub,hb,cond_false])
  |_=>exact dS.ok _ _ _ (by rw[jH t,hb];exact key _ hl)
def aiD(fn:Fn)(a b:List aC):dS ρ (tN fn a b fr lo h) (tN fn (Ce ρ a) (Ce ρ b) (subs ρ fr) (dB ρ lo) (dG ρ h)):=by
 simp only[tN,NG,wJ];cases iV (aC.evs a fr)||iV (aC.evs b fr)with
 |true=>exact dS.fail _
 |false=>exact dS.ok _ _ _ (by simp only[sub,cond_false])
def anv:dS ρ (Gj fr lo h) (Gj (subs ρ fr) (dB ρ lo) (dG ρ h)):=λ_=>by
 have:(dG ρ h).new (.map [])=dG ρ (h.new (.map [])):=Cb h (.map []);simp only[Gj,XB,sub,xq,this]
def QK(z:List V)(l c:aC):dS ρ (iC z l c fr lo h) (iC (subs ρ z) (aQ ρ l) (aQ ρ c) (subs ρ fr) (dB ρ lo) (dG ρ h)):=by
 simp only[iC,fV];generalize l.ev fr=L;generalize c.ev fr=C;cases L with
 |int k n =>
  cases n with
  |negSucc n=>exact dS.fail _
  |ofNat n =>
   cases C with
   |int k2 m =>
    cases m with
    |negSucc m=>exact dS.fail _
    |ofNat m =>
     simp only[sub];cases Nat.ble n m&&Nat.ble m 16777216 with
     |false=>exact dS.fail _
     |true =>
      refine dS.ok _ _ _ ?_;have:=Cb (ρ:=ρ) h (.cells (rep z m));simp only[SE]at this;simp only[cond_true,sub,xq,Jr,iQ,this]
   |_=>exact dS.fail _
 |_=>exact dS.fail _
end
section
open Go
variable {ρ:V->V}[Good ρ]{lo:Lo}{h:H}{fr:List V}
def JV{v:Option V}{d y r:Nat}(e:bound v d y=some r):bound (v.map (sub ρ)) d y=some r:=by
 cases v with
 |none=>exact e
 |some v =>
  cases v with
  |int k n=>simp only[bT,sub];exact e
  |_=>simp[bound]at e
def yN{len cap:Nat}{a b c:Option V}{r:Nat×Nat×Nat}(e:jG len cap a b c=some r):jG len cap (a.map (sub ρ)) (b.map (sub ρ)) (c.map (sub ρ))=some r:=by
 have key:∀c b:Option V,(match bound c cap cap with|some m=>(match bound b len m with|some hh=>(match bound a 0 hh with|some l=>some (l,hh,m)|none=>none)|none=>none)|none=>none)=some r->(match bound (c.map (sub ρ)) cap cap with|some m=>(match bound (b.map (sub ρ)) len m with|some hh=>(match bound (a.map (sub ρ)) 0 hh with|some l=>some (l,hh,m)|none=>none)|none=>none)|none=>none)=some r:=by
  intro c b e;cases h1:bound c cap cap with
  |none=>rw[h1]at e;cases e
  |some m =>
   rw[h1]at e;rw[JV h1];dsimp only at e|-;cases h2:bound b len m with
   |none=>rw[h2]at e;cases e
   |some hh =>
    rw[h2]at e;rw[JV h2];dsimp only at e|-;cases h3:bound a 0 hh with
    |none=>rw[h3]at e;cases e
    |some l=>rw[h3]at e;rw[JV h3];exact e
 cases c with
 |none=>exact key none b e
 |some c =>
  cases b with
  |none=>cases e
  |some b=>exact key (some c) (some b) e
def aiO{s:List Nat}{a b c:Option V}{v:V}(e:QT s a b c=some v):QT s (a.map (sub ρ)) (b.map (sub ρ)) (c.map (sub ρ))=some (sub ρ v):=by
 cases c with
 |some c=>cases e
 |none =>
  simp only[QT,dW]at e|-;cases hq:jG s.length s.length a b none with
  |none=>rw[hq]at e;cases e
  |some p =>
   rw[hq]at e;cases e;have:=yN (ρ:=ρ) hq;simp only[dW]at this;rw[this];simp only[sub]
def aiN{a b c:Option V}{v:V}(e:QS a b c=some v):QS (a.map (sub ρ)) (b.map (sub ρ)) (c.map (sub ρ))=some (sub ρ v):=by
 simp only[QS]at e|-;cases hq:jG 0 0 a b c with
 |none=>rw[hq]at e;cases e
 |some p=>rw[hq]at e;cases e;rw[yN hq];simp only[sub]
def anV(c:Option V)(m hh:Nat)(ex:Bool)(n:Nat):adO (c.map (sub ρ)) m hh ex n=adO c m hh ex n:=by cases c<;>rfl
def adP{sz:Nat}{xs:List V}{ex:Bool}{a b c:Option V}{v:V}(e:EY sz xs ex a b c=some v):EY sz (subs ρ xs) ex (a.map (sub ρ)) (b.map (sub ρ)) (c.map (sub ρ))=some (sub ρ v):=by
 simp only[EY,aaX,iQ]at e|-;cases hz:xY sz xs with
 |false=>rw[hz]at e;cases e
 |true =>
  rw[hz]at e;simp only[cond_true]at e|-;cases hq:jG xs.length xs.length a b c with
  |none=>rw[hq]at e;cases e
  |some p =>
   rw[hq]at e;cases e;rw[yN hq];simp only[sub,anV,Q5,List.map_take,List.map_drop]
def aiM{sz id off len:Nat}{cap:Option Nat}{sz':Nat}{a b c:Option V}{v:V}(e:QO sz id off len cap sz' a b c=some v):QO sz id off len cap sz' (a.map (sub ρ)) (b.map (sub ρ)) (c.map (sub ρ))=some (sub ρ v):=by
 simp only[QO]at e|-;cases hz:Nat.beq sz sz' with
 |false=>rw[hz]at e;cases e
 |true =>
  rw[hz]at e;simp only[cond_true]at e|-;cases hq:jG len (cap.getD len) a b c with
  |none=>rw[hq]at e;cases e
  |some p =>
   rw[hq]at e;rw[yN hq];dsimp only at e|-;cases hb:Nat.beq p.1 p.2.2&&!(Nat.beq p.1 0)with
   |true=>rw[hb]at e;cases e;simp only[cond_true,sub,subs]
   |false=>rw[hb]at e;cases e;cases c<;>simp only[cond_false,sub,bT,dW]
def anz(st:Bool)(sz:Nat)(x:aC)(a b c:Option aC):dS ρ (uh st sz x a b c fr lo h) (uh st sz (aQ ρ x) (G6 ρ a) (G6 ρ b) (G6 ρ c) (subs ρ fr) (dB ρ lo) (dG ρ h)):=by
 simp only[uh,fV,aqj];generalize x.ev fr=X;cases X with
 |str s=>cases st<;>first|exact dS.fail _|(simp only[sub];exact dS.eU λv e=>aiO e)
 |aj=>cases st<;>first|exact dS.fail _|(simp only[sub];exact dS.eU λv e=>aiN e)
 |list xs ex=>cases st<;>first|exact dS.fail _|(simp only[sub];exact dS.eU λv e=>adP e)
 |hsl id off len cap sz'=>cases st<;>first|exact dS.fail _|(simp only[sub];exact dS.eU λv e=>aiM e)
 |_=>exact dS.fail _
def Xg(off:Nat)(x:aC):dS ρ (jD off x fr lo h) (jD off (aQ ρ x) (subs ρ fr) (dB ρ lo) (dG ρ h)):=by
 simp only[jD,fV];generalize x.ev fr=X;cases X with
 |aY t o=>simp only[sub];exact dS.ok _ _ _ (by simp only[sub])
 |bg t o=>simp only[sub];exact dS.ok _ _ _ (by simp only[sub])
 |iE cs=>simp only[sub];exact dS.ok _ _ _ (by simp only[sub,tV])
 |_=>exact dS.fail _
def Wv{ag:Bool}{o:Option (List V)}{v:V}(e:mk ag o=some v):mk ag (o.map (subs ρ))=some (sub ρ v):=by rw[awE,e];rfl
def anq(ag:Bool)(off sz:Nat)(x:aC):dS ρ (qL ag off sz x fr lo h) (qL ag off sz (aQ ρ x) (subs ρ fr) (dB ρ lo) (dG ρ h)):=by
 simp only[qL,fV];generalize x.ev fr=X;cases X with
 |agg cs=>simp only[sub,tV,sH];exact dS.eU λv e=>Wv e
 |_=>exact dS.fail _
def adB(sz:Nat)(x i:aC):dS ρ (iG sz x i fr lo h) (iG sz (aQ ρ x) (aQ ρ i) (subs ρ fr) (dB ρ lo) (dG ρ h)):=by
 simp only[iG,fV];generalize x.ev fr=X;generalize i.ev fr=I;cases I with
 |int k n =>
  cases n with
  |negSucc n=>exact dS.fail _
  |ofNat n =>
   cases X with
   |list xs ex =>
    simp only[sub,L8];cases ng n xs with
    |none=>exact dS.fail _
    |some y =>
     simp only[bT,zf,iQ];cases Nat.beq y.cells.length sz with
     |false=>exact dS.fail _
     |true=>exact dS.ok _ _ _ (by simp only[sub,cond_true])
   |hsl id off len c s =>
    simp only[sub];cases Nat.blt n len with
    |false=>exact dS.fail _
    |true=>exact dS.ok _ _ _ (by simp only[sub,cond_true])
   |_=>exact dS.fail _
 |_=>exact dS.fail _
def aiy(sz n:Nat)(x i:aC):dS ρ (xU sz n x i fr lo h) (xU sz n (aQ ρ x) (aQ ρ i) (subs ρ fr) (dB ρ lo) (dG ρ h)):=by
 simp only[xU,fV];generalize x.ev fr=X;generalize i.ev fr=I;cases I with
 |int k m =>
  cases m with
  |negSucc m=>exact dS.fail _
  |ofNat m =>
   simp only[sub];cases Nat.blt m n with
   |false=>exact dS.fail _
   |true =>
    simp only[cond_true];cases X with
    |aY t o=>simp only[sub];exact dS.ok _ _ _ (by simp only[sub])
    |bg t o=>simp only[sub];exact dS.ok _ _ _ (by simp only[sub])
    |_=>exact dS.fail _
 |_=>exact dS.fail _
def anr(x i:aC):dS ρ (pI x i fr lo h) (pI (aQ ρ x) (aQ ρ i) (subs ρ fr) (dB ρ lo) (dG ρ h)):=by
 simp only[pI,fV];generalize x.ev fr=X;generalize i.ev fr=I;cases X with
 |str s =>
  cases I with
  |int k m =>
   cases m with
   |negSucc m=>exact dS.fail _
   |ofNat m =>
    simp only[sub];cases Qj s m with
    |none=>exact dS.fail _
    |some b=>exact dS.ok _ _ _ (by simp only[sub])
  |_=>exact dS.fail _
 |_=>exact dS.fail _
def aiz(ag:Bool)(sz n:Nat)(x i:aC):dS ρ (mg ag sz n x i fr lo h) (mg ag sz n (aQ ρ x) (aQ ρ i) (subs ρ fr) (dB ρ lo) (dG ρ h)):=by
 simp only[mg,fV];generalize x.ev fr=X;generalize i.ev fr=I;cases X with
 |agg cs =>
  cases I with
  |int k m =>
   cases m with
   |negSucc m=>exact dS.fail _
   |ofNat m =>
    simp only[sub];cases Nat.blt m n with
    |false=>exact dS.fail _
    |true=>simp only[cond_true,tV,sH];exact dS.eU λv e=>Wv e
  |_=>exact dS.fail _
 |_=>exact dS.fail _
def KD{kc:Nat}{v:V}(e:iy kc v=true):sub ρ v=v:=by
 cases v<;>first|(simp[iy]at e;done)|simp only[sub]
def ahX{m:V}{es:List (V×V)}(e:mapOf m h=some es):mapOf (sub ρ m) (dG ρ h)=some (E9 ρ es):=by
 cases m with
 |fA=>simp only[mapOf,sub]at e|-;cases e;rfl
 |map id=>simp only[mapOf,sub,zu]at e|-;rw[e];rfl
 |_=>simp[mapOf]at e
def FQ{k:V}:∀{es:List (V×V)} {i:Nat} {r:Option (Nat×V)},oN h k es i=some r->oN (dG ρ h) (sub ρ k) (E9 ρ es) i=some (r.map λp=>(p.1,sub ρ p.2))
 |[],i,r,e=>by cases e;rfl
 |(k2,v)::es,i,r,e=>by
  simp only[oN,E9,bD]at e|-;cases hq:eqV h k k2 with
  |none=>rw[hq]at e;cases e
  |some b =>
   rw[hq]at e;rw[aqh hq];dsimp only at e|-;cases b with
   |true=>cases e;rfl
   |false=>exact FQ (es:=es) e
def aiA(kc:Nat)(z:V)(ok:Bool)(m k:aC):dS ρ (mD kc z ok m k fr lo h) (mD kc (sub ρ z) ok (aQ ρ m) (aQ ρ k) (subs ρ fr) (dB ρ lo) (dG ρ h)):=by
 simp only[mD,fV];generalize m.ev fr=M;generalize k.ev fr=K;cases hk:iy kc K with
 |false=>exact dS.fail _
 |true =>
  have hs:=KD (ρ:=ρ) hk;rw[hs,hk];simp only[cond_true];cases hm:mapOf M h with
  |none=>exact dS.fail _
  |some es =>
   rw[ahX hm];dsimp only;cases hf:oN h K es 0 with
   |none=>exact dS.fail _
   |some r =>
    have:=FQ (ρ:=ρ) hf;rw[hs]at this;rw[this];refine dS.ok _ _ _ ?_;cases r with
    |none=>cases ok<;>simp only[tZ,dW,cond_true,cond_false,sub,subs]
    |some p=>cases ok<;>simp only[tZ,bT,cond_true,cond_false,sub,subs]
def QM:∀(es:List (V×V)) (i:Nat) (v:V),AQ (E9 ρ es) i (sub ρ v)=E9 ρ (AQ es i v)
 |[],_,_=>rfl
 |(k,_)::es,0,v=>rfl
 |e::es,n+1,v=>by
  have:=QM es n v;simp only[E9,bD,AQ]at this|-;rw[this]
def MO(es:List (V×V))(k v:V):E9 ρ es++[(sub ρ k,sub ρ v)]=E9 ρ (es++[(k,v)]):=by simp[E9]
def xX(id:Nat)(es:List (V×V)):(dG ρ h).set id (.map (E9 ρ es))=dG ρ (h.set id (.map es)):=JC h id (.map es)
def aiC(kc:Nat)(m k x:aC):dS ρ (oH kc m k x fr lo h) (oH kc (aQ ρ m) (aQ ρ k) (aQ ρ x) (subs ρ fr) (dB ρ lo) (dG ρ h)):=by
 simp only[oH,fV,Kz];generalize m.ev fr=M;generalize k.ev fr=K;generalize x.ev fr=X;cases hk:iy kc K with
 |false=>exact dS.fail _
 |true =>
  have hs:=KD (ρ:=ρ) hk;rw[hs,hk];cases bK X with
  |true=>exact dS.fail _
  |false =>
   simp only[Bool.not_false,aU,cond_true];cases M with
   |map id =>
    simp only[sub,zu];cases gK h id with
    |none=>exact dS.fail _
    |some es =>
     simp only[bT];cases hf:oN h K es 0 with
     |none=>exact dS.fail _
     |some r =>
      have:=FQ (ρ:=ρ) hf;rw[hs]at this;rw[this];cases r with
      |none =>
       refine dS.ok _ _ _ ?_;have:=MO (ρ:=ρ) es K X;rw[hs]at this;simp only[La,dW,this,xX,sub]
      |some p =>
       refine dS.ok _ _ _ ?_;simp only[La,bT,QM,xX,sub]
   |_=>exact dS.fail _
def aiB(kc:Nat)(z:V)(m k:aC):dS ρ (zI kc z m k fr lo h) (zI kc (sub ρ z) (aQ ρ m) (aQ ρ k) (subs ρ fr) (dB ρ lo) (dG ρ h)):=by
 simp only[zI,fV];generalize m.ev fr=M;generalize k.ev fr=K;cases hk:iy kc K with
 |false=>exact dS.fail _
 |true =>
  have hs:=KD (ρ:=ρ) hk;rw[hs,hk];simp only[cond_true];cases M with
  |map id =>
   simp only[sub,zu];cases gK h id with
   |none=>exact dS.fail _
   |some es =>
    simp only[bT];cases hf:oN h K es 0 with
    |none=>exact dS.fail _
    |some r =>
     have:=FQ (ρ:=ρ) hf;rw[hs]at this;rw[this];cases r with
     |none =>
      refine dS.ok _ _ _ ?_;have hl:(E9 ρ es).length=es.length:=by simp[E9]
      have ha:=MO (ρ:=ρ) es K z;rw[hs]at ha;simp only[dW,Hu,ha,xX,sub,subs,hl]
     |some p =>
      refine dS.ok _ _ _ ?_;simp only[bT,Hu,xX,sub,subs]
  |_=>exact dS.fail _
def aaq(m s x:aC):dS ρ (uG m s x fr lo h) (uG (aQ ρ m) (aQ ρ s) (aQ ρ x) (subs ρ fr) (dB ρ lo) (dG ρ h)):=by
 simp only[uG,fV];generalize m.ev fr=M;generalize s.ev fr=S;generalize x.ev fr=X;refine Gs (ρ:=ρ) (f:=λv=>(match M with
  |.map id=>(match S with
   |.int _ (.ofNat i)=>(match gK h id with
    |some es=>bif Nat.blt i es.length then .ok .undef lo (h.set id (.map (AQ es i v)))else .fail
    |none=>.fail)
   |_=>.fail)
  |_=>.fail)) (g:=λv=>(match sub ρ M with
  |.map id=>(match sub ρ S with
   |.int _ (.ofNat i)=>(match gK (dG ρ h) id with
    |some es=>bif Nat.blt i es.length then .ok .undef (dB ρ lo) ((dG ρ h).set id (.map (AQ es i v)))else .fail
    |none=>.fail)
   |_=>.fail)
  |_=>.fail)) λ_=>?_
 cases M with
 |map id =>
  cases S with
  |int k n =>
   cases n with
   |negSucc n=>exact dS.fail _
   |ofNat n =>
    simp only[sub,zu];cases gK h id with
    |none=>exact dS.fail _
    |some es =>
     have hl:(E9 ρ es).length=es.length:=by simp[E9]
     simp only[bT,hl];cases Nat.blt n es.length with
     |false=>exact dS.fail _
     |true=>exact dS.ok _ _ _ (by simp only[cond_true,QM,xX,sub])
  |_=>exact dS.fail _
 |_=>exact dS.fail _
def adA(i:Nat)(x:aC):dS ρ (qj i x fr lo h) (qj i (aQ ρ x) (subs ρ fr) (dB ρ lo) (dG ρ h)):=by
 simp only[qj,fV];generalize x.ev fr=X;cases X with
 |tuple vs=>simp only[sub,L8];exact dS.eU λv e=>by rw[e];rfl
 |_=>exact dS.fail _
def TM{cls:Nat}{v:V}{n:Nat}(e:lenOf h cls v=some n):lenOf (dG ρ h) cls (sub ρ v)=some n:=by
 match cls with
 |0=>cases v<;>first|(simp[lenOf]at e;done)|(simp only[lenOf,sub,iQ]at e|-;exact e)
 |1=>cases v<;>first|(simp[lenOf]at e;done)|(simp only[lenOf,sub]at e|-;exact e)
 |2 =>
  cases v with
  |fA=>simp only[lenOf,sub]at e|-;exact e
  |map id =>
   simp only[lenOf,sub,zu]at e|-;cases hg:gK h id with
   |none=>rw[hg]at e;cases e
   |some es=>rw[hg]at e;cases e;simp[E9]
  |_=>simp[lenOf]at e
 |n+3=>cases e
def axe(cls:Nat)(x:aC):dS ρ (vN cls x fr lo h) (vN cls (aQ ρ x) (subs ρ fr) (dB ρ lo) (dG ρ h)):=by
 simp only[vN,fV];cases he:lenOf h cls (x.ev fr)with
 |none=>exact dS.fail _
 |some n=>rw[TM he];exact dS.ok _ _ _ (by simp only[sub])
def axd(x:aC):dS ρ (BP x fr lo h) (BP (aQ ρ x) (subs ρ fr) (dB ρ lo) (dG ρ h)):=by
 simp only[BP,fV];generalize x.ev fr=X;cases X with
 |aj=>exact dS.ok _ _ _ (by simp only[sub])
 |list xs ex=>cases ex<;>first|exact dS.fail _|exact dS.ok _ _ _ (by simp only[sub,iQ,cond_true])
 |hsl a b c d e=>cases d<;>first|exact dS.fail _|exact dS.ok _ _ _ (by simp only[sub])
 |_=>exact dS.fail _
def axg(x y:aC):dS ρ (zJ x y fr lo h) (zJ (aQ ρ x) (aQ ρ y) (subs ρ fr) (dB ρ lo) (dG ρ h)):=by
 simp only[zJ,fV];generalize x.ev fr=X;generalize y.ev fr=Y;cases X with
 |int k n=>cases Y<;>first|exact dS.fail _|exact dS.ok _ _ _ (by simp only[sub])
 |_=>exact dS.fail _
def axh(x y:aC):dS ρ (zK x y fr lo h) (zK (aQ ρ x) (aQ ρ y) (subs ρ fr) (dB ρ lo) (dG ρ h)):=by
 simp only[zK,fV];generalize x.ev fr=X;generalize y.ev fr=Y;cases X with
 |int k n=>cases Y<;>first|exact dS.fail _|exact dS.ok _ _ _ (by simp only[sub])
 |_=>exact dS.fail _
def UC{v:V}{n:Nat}(e:fH v=some n):fH (sub ρ v)=some n:=by
 cases v<;>first|(simp[fH]at e;done)|(simp only[fH,sub,iQ]at e|-;exact e)
def vU{sz n:Nat}{v:V}{cs:List V}(e:bJ h sz n v=some cs):bJ (dG ρ h) sz n (sub ρ v)=some (subs ρ cs):=by
 cases v with
 |aj =>
  simp only[bJ,sub]at e|-;cases hb:Nat.beq n 0 with
  |false=>rw[hb]at e;cases e
  |true=>rw[hb]at e;cases e;simp only[cond_true,subs]
 |list xs ex =>
  simp only[bJ,sub,aaX,iQ]at e|-;cases hb:xY sz xs&&Nat.ble n xs.length with
  |false=>rw[hb]at e;cases e
  |true=>rw[hb]at e;simp only[cond_true]at e|-;rw[FU,sH,e];rfl
 |hsl id off len c s =>
  simp only[bJ,sub,lH,UJ]at e|-;cases hb:Nat.beq sz s&&Nat.ble n len with
  |false=>rw[hb]at e;cases e
  |true=>rw[hb]at e;simp only[cond_true]at e|-;rw[e];rfl
 |str s =>
  simp only[bJ,sub]at e|-;cases hb:Nat.beq sz 1 with
  |false=>rw[hb]at e;cases e
  |true =>
   rw[hb]at e;simp only[cond_true]at e|-;have:=sH (ρ:=ρ) n (ofBytes s);rw[EN,e]at this;rw[e,this];rfl
 |_=>simp[bJ]at e
def alU{v:V}(e:yH v=true):yH (sub ρ v)=true:=by
 cases v<;>first|(simp[yH]at e;done)|simp only[sub,yH]
def XA(ρ:V->V)(p:V×H):V×H:=(sub ρ p.1,dG ρ p.2)
def UG(cs:List V):(dG ρ h).new (.cells (subs ρ cs))=dG ρ (h.new (.cells cs)):=Cb h (.cells cs)
def KZ(id:Nat)(cs:List V):(dG ρ h).set id (.cells (subs ρ cs))=dG ρ (h.set id (.cells cs)):=JC h id (.cells cs)
def yF{h:H}{n sz:Nat}{old:Option (List V)}{new:List V}{p:V×H}(e:iJ h n sz old new=some p):iJ (dG ρ h) n sz (old.map (subs ρ)) (subs ρ new)=some (XA ρ p):=by
 cases old with
 |none=>cases e
 |some old =>
  simp only[iJ,bT]at e|-;cases hb:Nat.ble n 16777216 with
  |false=>rw[hb]at e;cases e
  |true=>rw[hb]at e;cases e;simp only[cond_true,XA,sub,xq,<- qY,UG]
def ajE{sz:Nat}{s:V}{n:Nat}{new:List V}{p:V×H}(e:ou h sz s n new=some p):ou (dG ρ h) sz (sub ρ s) n (subs ρ new)=some (XA ρ p):=by
 simp only[ou]at e|-;cases hn:Nat.beq n 0 with
 |true =>
  rw[hn]at e;simp only[cond_true]at e|-;cases hs:yH s with
  |false=>rw[hs]at e;cases e
  |true=>rw[hs]at e;rw[alU hs];cases e;rfl
 |false =>
  rw[hn]at e;simp only[cond_false]at e|-;cases s with
  |aj =>
   simp only[sub]at e|-;have:=yF (ρ:=ρ) e;simp only[bT,subs]at this;exact this
  |list xs ex =>
   simp only[sub,iQ]at e|-;cases ex with
   |false=>cases e
   |true =>
    simp only[cond_true]at e|-;cases hq:bJ h sz xs.length (.list xs true)with
    |none=>rw[hq]at e;cases e
    |some cs =>
     rw[hq]at e;have h2:=vU (ρ:=ρ) hq;simp only[sub]at h2;rw[h2];exact yF e
  |hsl id off len cap sz' =>
   simp only[sub]at e|-;cases hb:Nat.beq sz sz' with
   |false=>rw[hb]at e;cases e
   |true =>
    rw[hb]at e;simp only[cond_true]at e|-;cases cap with
    |some c =>
     simp only[Aq]at e|-;cases hc:Nat.ble (len+n) c with
     |true =>
      rw[hc]at e;simp only[cond_true,aep,lH]at e|-;cases hg:getCells h id with
      |none=>rw[hg]at e;cases e
      |some cs =>
       rw[hg]at e;simp only[bT,uJ]at e|-;cases hs:splice (off+len*sz) cs new with
       |none=>rw[hs]at e;cases e
       |some c2=>rw[hs]at e;cases e;simp only[bT,XA,sub,KZ]
     |false =>
      rw[hc]at e;simp only[cond_false]at e|-;cases hq:bJ h sz len (.hsl id off len (some c) sz')with
      |none=>rw[hq]at e;cases e
      |some cs =>
       rw[hq]at e;have h2:=vU (ρ:=ρ) hq;simp only[sub]at h2;rw[h2];exact yF e
    |none =>
     simp only[Aq]at e|-;cases ho:Nat.beq off 0 with
     |false=>rw[ho]at e;cases e
     |true =>
      rw[ho]at e;simp only[cond_true]at e|-;cases hq:bJ h sz len (.hsl id off len none sz')with
      |none=>rw[hq]at e;cases e
      |some cs =>
       rw[hq]at e;have h2:=vU (ρ:=ρ) hq;simp only[sub]at h2;rw[h2,JA];exact yF e
  |_=>cases e
def Uu(sz:Nat)(x y:aC):dS ρ (dN sz x y fr lo h) (dN sz (aQ ρ x) (aQ ρ y) (subs ρ fr) (dB ρ lo) (dG ρ h)):=by
 simp only[dN,fV];cases hl:fH (y.ev fr)with
 |none=>exact dS.fail _
 |some n =>
  rw[UC hl];dsimp only;cases hs:bJ h sz n (y.ev fr)with
  |none=>exact dS.fail _
  |some new =>
   rw[vU hs];simp only[EP];cases bf new with
   |false=>exact dS.fail _
   |true =>
    simp only[cond_true];cases ha:ou h sz (x.ev fr) n new with
    |none=>exact dS.fail _
    |some p=>rw[ajE ha];exact dS.ok _ _ _ rfl
def ady(z:List V)(x n:aC):dS ρ (lT z x n fr lo h) (lT (subs ρ z) (aQ ρ x) (aQ ρ n) (subs ρ fr) (dB ρ lo) (dG ρ h)):=by
 simp only[lT,fV];generalize x.ev fr=X;generalize n.ev fr=N;cases N with
 |int k m =>
  cases m with
  |negSucc m=>exact dS.fail _
  |ofNat m =>
   simp only[sub];cases eqK k .i64&&Nat.ble m 16777216&&Nat.blt 0 m with
   |false=>exact dS.fail _
   |true =>
    simp only[cond_true];cases X with
    |aj=>simp only[sub];exact dS.ok _ _ _ (by simp only[sub,xq,Jr,iQ,UG])
    |_=>exact dS.fail _
 |_=>exact dS.fail _
def aix(sz:Nat)(x y:V)(n:Nat):dS ρ (zl sz x y n lo h) (zl sz (sub ρ x) (sub ρ y) n (dB ρ lo) (dG ρ h)):=by
 have other:∀Z:V,dS ρ (bif Nat.beq n 0 then .ok (.int .i64 0) lo h else .fail) (bif Nat.beq n 0 then .ok (.int .i64 0) (dB ρ lo) (dG ρ h)else .fail):=by
  intro _;cases Nat.beq n 0 with
  |false=>exact dS.fail _
  |true=>exact dS.ok _ _ _ (by simp only[cond_true,sub])
 cases x with
 |hsl id off len c sz' =>
  simp only[zl,sub,lH];cases Nat.beq sz sz' with
  |false=>exact dS.fail _
  |true =>
   simp only[cond_true];cases hs:bJ h sz n y with
   |none=>exact dS.fail _
   |some new =>
    rw[vU hs];dsimp only;cases getCells h id with
    |none=>exact dS.fail _
    |some cs =>
     simp only[bT,EP,uJ];cases bf new with
     |false=>exact dS.fail _
     |true =>
      simp only[cond_true];cases splice off cs new with
      |none=>exact dS.fail _
      |some c2=>exact dS.ok _ _ _ (by simp only[bT,sub,KZ])
 |iface t w =>
  simp only[zl,jH];cases Nat.beq t 1000000 with
  |false=>exact other .undef
  |true =>
   simp only[cond_true];rcases jF (ρ:=ρ) w with⟨b,h⟩|⟨k,n,h⟩|⟨s,h⟩|h|⟨xs,e,h⟩<;>rw[h]<;>exact other .undef
 |_=>simp only[zl,sub];exact other .undef
def asq(sz:Nat)(x y:aC):dS ρ (uF sz x y fr lo h) (uF sz (aQ ρ x) (aQ ρ y) (subs ρ fr) (dB ρ lo) (dG ρ h)):=by
 simp only[uF,fV];cases hl:fH (y.ev fr)with
 |none=>exact dS.fail _
 |some n =>
  rw[UC hl];dsimp only;cases hm:lenOf h 0 (x.ev fr)with
  |none=>exact dS.fail _
  |some m=>rw[TM hm];exact aix _ _ _ _
def anp(z:List V)(x:aC):dS ρ (vM z x fr lo h) (vM (subs ρ z) (aQ ρ x) (subs ρ fr) (dB ρ lo) (dG ρ h)):=by
 simp only[vM,fV];generalize x.ev fr=X;cases X with
 |aj=>exact dS.ok _ _ _ (by simp only[sub])
 |list xs ex =>
  cases xs with
  |nil=>exact dS.ok _ _ _ (by simp only[sub,subs])
  |cons y ys=>exact dS.fail _
 |hsl id off len c s =>
  simp only[sub,EP,lH];cases bf z with
  |false=>exact dS.fail _
  |true =>
   simp only[cond_true];cases getCells h id with
   |none=>exact dS.fail _
   |some cs =>
    simp only[bT,Jr,uJ];cases splice off cs (rep z len)with
    |none=>exact dS.fail _
    |some c2=>exact dS.ok _ _ _ (by simp only[bT,sub,KZ])
 |_=>exact dS.fail _
def anw(x y:aC):dS ρ (uf x y fr lo h) (uf (aQ ρ x) (aQ ρ y) (subs ρ fr) (dB ρ lo) (dG ρ h)):=by
 simp only[uf,fV];generalize x.ev fr=X;generalize y.ev fr=Y;cases X with
 |bg a o =>
  cases Y with
  |bg b p =>
   simp only[sub];cases Nat.beq a b with
   |true=>exact dS.fail _
   |false=>exact dS.ok _ _ _ (by simp only[cond_false,sub])
  |_=>exact dS.fail _
 |_=>exact dS.fail _
def MP(ρ:V->V)(r:List V×H):List V×H:=(subs ρ r.1,dG ρ r.2)
def ak8(v:V)(r:List V×H):kQ (sub ρ v) (MP ρ r)=MP ρ (kQ v r):=by simp only[kQ,MP,subs]
def Eu:∀(n:Nat) (vs:List V) (h:H),dF n (subs ρ vs) (dG ρ h)=MP ρ (dF n vs h)
 |0,vs,h=>by simp only[dF,MP]
 |n+1,[],h=>by simp only[subs,dF,MP]
 |n+1,v::vs,h=>by
  have dflt:∀(w:V) (h:H),kQ (sub ρ w) (dF n (subs ρ vs) (dG ρ h))=MP ρ (kQ w (dF n vs h)):=by
   intro w h;rw[Eu n vs h,ak8]
  cases v with
  |hsl id off len cap sz =>
   simp only[subs,sub,dF,JB];have d:=dflt (.hsl id off len cap sz) h;simp only[sub]at d;cases h.get id with
   |none=>exact d
   |some o =>
    cases o with
    |cells cs =>
     simp only[bT,SE,tV,J3];cases chunk sz len (skip off cs)with
     |none=>exact d
     |some xs =>
      simp only[bT,JA,Eu n xs];cases cap with
     |none =>
      have d2:=dflt (.list (dF n xs (h.del id)).1 false) (dF n xs (h.del id)).2;simp only[sub]at d2;exact d2
     |some c =>
      have d2:=dflt (.list (dF n xs (h.del id)).1 (Nat.beq c len)) (dF n xs (h.del id)).2;simp only[sub]at d2;exact d2
    |map es=>exact d
    |loop l=>exact d
  |agg cs =>
   simp only[subs,sub,dF,Eu n cs];have d2:=dflt (.agg (dF n cs h).1) (dF n cs h).2;simp only[sub]at d2;exact d2
  |tuple cs =>
   simp only[subs,sub,dF,Eu n cs];have d2:=dflt (.tuple (dF n cs h).1) (dF n cs h).2;simp only[sub]at d2;exact d2
  |iface t w =>
   have d:=dflt (.iface t w) h;simp only[subs,dF,jH]at d|-;cases hb:Nat.beq t 1000000 with
   |false=>rw[hb]at d;exact d
   |true =>
    rw[hb]at d;simp only[cond_true]at d|-;rcases jF (ρ:=ρ) w with⟨b,h⟩|⟨k,n,h⟩|⟨s,h⟩|h|⟨xs,e,h⟩<;>rw[h]at d|-<;>exact d
  |undef=>have d:=dflt .undef h;simp only[subs,sub,dF]at d|-;exact d
  |bool b=>have d:=dflt (.bool b) h;simp only[subs,sub,dF]at d|-;exact d
  |int k b=>have d:=dflt (.int k b) h;simp only[subs,sub,dF]at d|-;exact d
  |str b=>have d:=dflt (.str b) h;simp only[subs,sub,dF]at d|-;exact d
  |nilPtr=>have d:=dflt .nilPtr h;simp only[subs,sub,dF]at d|-;exact d
  |aY a b=>have d:=dflt (.aY a b) h;simp only[subs,sub,dF]at d|-;exact d
  |bg a b=>have d:=dflt (.bg a b) h;simp only[subs,sub,dF]at d|-;exact d
  |iE b=>have d:=dflt (.iE b) h;simp only[subs,sub,dF]at d|-;exact d
  |aj=>have d:=dflt .aj h;simp only[subs,sub,dF]at d|-;exact d
  |list a b=>have d:=dflt (.list a b) h;simp only[subs,sub,dF]at d|-;exact d
  |fA=>have d:=dflt .fA h;simp only[subs,sub,dF]at d|-;exact d
  |map b=>have d:=dflt (.map b) h;simp only[subs,sub,dF]at d|-;exact d
  |nilFunc=>have d:=dflt .nilFunc h;simp only[subs,sub,dF]at d|-;exact d
  |func a b c=>have d:=dflt (.func a b c) h;simp only[subs,sub,dF]at d|-;exact d
  |nilIface=>have d:=dflt .nilIface h;simp only[subs,sub,dF]at d|-;exact d
def VJ(v:V)(h:H):qo (sub ρ v) (dG ρ h)=XA ρ (qo v h):=by
 have:=Eu (ρ:=ρ) 1000000 [v] h;simp only[subs]at this;simp only[qo,this,MP];cases dF 1000000 [v] h with
 |mk l h2=>cases l<;>simp only[subs,XA]
def aar(z:List V)(l c:aC):dS ρ (kJ z l c fr lo h) (kJ (subs ρ z) (aQ ρ l) (aQ ρ c) (subs ρ fr) (dB ρ lo) (dG ρ h)):=by
 have hm:=QK (ρ:=ρ) (fr:=fr) (lo:=lo) (h:=h) z l c;simp only[kJ];cases hq:iC z l c fr lo h with
 |fail=>exact dS.fail _
 |ok v lo2 h2 =>
  rw[hq]at hm;rw[hm (by intro h;cases h)];simp only[XB,VJ,XA];exact dS.ok _ _ _ rfl
def adx(sz:Nat)(x y:aC):dS ρ (lS sz x y fr lo h) (lS sz (aQ ρ x) (aQ ρ y) (subs ρ fr) (dB ρ lo) (dG ρ h)):=by
 have hm:=Uu (ρ:=ρ) (fr:=fr) (lo:=lo) (h:=h) sz x y;simp only[lS];cases hq:dN sz x y fr lo h with
 |fail=>exact dS.fail _
 |ok v lo2 h2 =>
  rw[hq]at hm;rw[hm (by intro h;cases h)];simp only[XB,VJ,XA];exact dS.ok _ _ _ rfl
def afC(d:Nat)(o:oM):dS ρ (aK d o fr lo h) (aK d (iD ρ o) (subs ρ fr) (dB ρ lo) (dG ρ h)):=by
 cases o with
 |mv x=>exact aAo x
 |pick c a b=>exact asr c a b
 |alloc z=>exact anm (fr:=fr) d z
 |jy z=>exact aiw (fr:=fr) z
 |CJ x=>exact aso d x
 |Gw x=>exact asn x
 |build z ps=>exact ano z ps
 |lit z a b ps=>exact axf z a b ps
 |qR a=>exact ant a
 |qI n a=>exact anu n a
 |store n a x=>exact anA n a x
 |tK x=>exact anx x
 |eq n c x y=>exact aAn n c x y
 |bin op x y=>exact axc op x y
 |not x=>exact axj x
 |neg x=>exact axi x
 |mM k x=>exact adz k x
 |zN x=>exact anB x
 |Ic x=>exact asu x
 |nG x=>exact adE x
 |toStr x=>exact anC x
 |pF t x=>exact adC t x
 |l9 f a b=>exact aiD f a b
 |mkMap=>exact anv (fr:=fr)
 |mkSlice z l c=>exact QK z l c
 |slice s n x l h m=>exact anz s n x l h m
 |fieldAddr o x=>exact Xg o x
 |field a o n x=>exact anq a o n x
 |ji n x i=>exact adB n x i
 |wS s n x i=>exact aiy s n x i
 |index x i=>exact anr x i
 |uw a s n x i=>exact aiz a s n x i
 |lookup kc z ok m k=>exact aiA kc z ok m k
 |vI kc m k x=>exact aiC kc m k x
 |wY kc z m k=>exact aiB kc z m k
 |oz m s x=>exact aaq m s x
 |extract i x=>exact adA i x
 |len c x=>exact axe c x
 |cap x=>exact axd x
 |max x y=>exact axg x y
 |min x y=>exact axh x y
 |append n x y=>exact Uu n x y
 |qE z x n=>exact ady z x n
 |copy n x y=>exact asq n x y
 |clear z x=>exact anp z x
 |qJ x y=>exact anw x y
 |ni z l c=>exact aar z l c
 |rU n x y=>exact adx n x y
 |recover=>exact dS.ok _ _ _ (by simp only[sub];rfl)
 |bad=>exact dS.fail _
end
section
open Go
variable {ρ:V->V}[Good ρ]{lo:Lo}{h:H}{fr:List V}
def Ii(ρ:V->V):Cmd->Cmd
 |.code c=>.code (lF ρ c)
 |.ops l=>.ops (yB ρ l)
 |.draws l=>.draws (yB ρ l)
 |.call f a0s=>.call f (subs ρ a0s)
 |.app f a0s=>.app (sub ρ f) (subs ρ a0s)
 |.scope c r=>.scope (lF ρ c) (lF ρ r)
def qA(ρ:V->V):Out->Out
 |.fail=>.fail
 |.norm fr lo h=>.norm (subs ρ fr) (dB ρ lo) (dG ρ h)
 |.jump j fr lo h=>.jump j (subs ρ fr) (dB ρ lo) (dG ρ h)
 |.val v h=>.val (sub ρ v) (dG ρ h)
def kK(ρ:V->V)(a b:Out):Prop:=a≠.fail->b=qA ρ a
def kK.fail(b:Out):kK ρ .fail b:=λh=>absurd rfl h
def kK.rfl'(a:Out){b:Out}(h:b=qA ρ a):kK ρ a b:=λ_=>h
structure qO (ρ:V->V)(ih ih':Ih):Prop where
 go:∀c fr lo h,kK ρ (ih c fr lo h) (ih' (Ii ρ c) (subs ρ fr) (dB ρ lo) (dG ρ h))
variable {ih ih':Ih}
def Az:∀(c:aN) (l:Nat),findLabel (lF ρ c) l=(findLabel c l).map (lF ρ)
 |.seq a b,l=>by
  simp only[lF,findLabel,Az a l,Az b l];cases findLabel a l with
  |some r=>simp only[bT,lF]
  |none=>simp only[dW]
 |.label l',l=>by
  simp only[lF,findLabel];cases Nat.beq l' l<;>simp[lF]
 |.skip,l=>by simp only[lF,findLabel,dW]
 |.region _,l=>by simp only[lF,findLabel,dW]
 |.draw _,l=>by simp only[lF,findLabel,dW]
 |.cond _ _ _,l=>by simp only[lF,findLabel,dW]
 |.block _ _,l=>by simp only[lF,findLabel,dW]
 |.loop _,l=>by simp only[lF,findLabel,dW]
 |.rangeFunc _ _ _ _,l=>by simp only[lF,findLabel,dW]
 |.exit _,l=>by simp only[lF,findLabel,dW]
 |.scope _,l=>by simp only[lF,findLabel,dW]
 |.goto _,l=>by simp only[lF,findLabel,dW]
 |.ret,l=>by simp only[lF,findLabel,dW]
def TF(hi:qO ρ ih ih')(b:aN){o o':Out}(ho:kK ρ o o'):kK ρ (jC ih b o) (jC ih' (lF ρ b) o'):=by
 cases o with
 |fail=>exact kK.fail _
 |norm fr lo h=>rw[ho (by intro h;cases h)];exact hi.go (.code b) fr lo h
 |jump j fr lo h=>rw[ho (by intro h;cases h)];exact kK.rfl' _ rfl
 |val v h=>exact kK.fail _
def acM(id:Nat){o o':Out}(ho:kK ρ o o'):kK ρ (iw id o) (iw id o'):=by
 cases o with
 |fail=>exact kK.fail _
 |norm fr lo h=>rw[ho (by intro h;cases h)];exact kK.rfl' _ rfl
 |jump j fr lo h =>
  rw[ho (by intro h;cases h)];cases j with
  |exit i=>simp only[iw,qA];cases Nat.beq i id<;>exact kK.rfl' _ rfl
  |_=>exact kK.rfl' _ rfl
 |val v h=>rw[ho (by intro h;cases h)];exact kK.rfl' _ rfl
def acS(hi:qO ρ ih ih')(c:aN){o o':Out}(ho:kK ρ o o'):kK ρ (uy ih c o) (uy ih' (lF ρ c) o'):=by
 cases o with
 |fail=>exact kK.fail _
 |norm fr lo h=>rw[ho (by intro h;cases h)];exact kK.rfl' _ rfl
 |jump j fr lo h =>
  rw[ho (by intro h;cases h)];cases j with
  |goto l =>
   simp only[uy,qA,Az];cases findLabel c l with
   |none=>exact kK.rfl' _ rfl
   |some r=>exact hi.go (.scope c r) fr lo h
  |_=>exact kK.rfl' _ rfl
 |val v h=>rw[ho (by intro h;cases h)];exact kK.rfl' _ rfl
def acP(l:Nat){fr:List V}{lo:Lo}{o o':Out}(ho:kK ρ o o'):kK ρ (HY l fr lo o) (HY l (subs ρ fr) (dB ρ lo) o'):=by
 cases o with
 |val v h =>
  rw[ho (by intro h;cases h)];simp only[HY,qA,xO];cases getLoop h l with
  |none=>exact kK.fail _
  |some lp =>
   simp only[bT,Xy];cases Nat.beq lp.st 1 with
   |true=>exact kK.fail _
   |false =>
    simp only[cond_false];cases lp.pending with
    |none=>exact kK.rfl' _ (by simp only[JA,qA])
    |some j=>exact kK.rfl' _ (by simp only[JA,qA])
 |_=>exact kK.fail _
def Gg:∀l:List V,qK (subs ρ l)=subs ρ (qK l)
 |[]=>by simp[qK,subs]
 |v::l=>by
  cases v with
  |iface t w =>
   simp only[subs,qK,jH];cases Nat.beq t 1000000 with
   |false=>simp only[cond_false,Gg l]
   |true =>
    simp only[cond_true];rcases jF (ρ:=ρ) w with⟨b,h⟩|⟨k,n,h⟩|⟨s,h⟩|h|⟨xs,e,h⟩<;>rw[h]<;>simp only[Gg l]
  |_=>simp only[subs,sub,qK,Gg l]
def BD(t:Nat):∀l:List V,fJ t (subs ρ l)=subs ρ (fJ t l)
 |[]=>by simp[fJ,subs]
 |v::l=>by
  cases v with
  |iface q w =>
   simp only[subs,fJ,jH];cases Nat.beq q 1000000 with
   |false=>simp only[cond_false,BD t l]
   |true =>
    simp only[cond_true];rcases jF (ρ:=ρ) w with⟨b,h⟩|⟨k,n,h⟩|⟨s,h⟩|h|⟨xs,e,h⟩<;>rw[h]<;>simp only[BD t l]
  |aY u o =>
   simp only[subs,sub,fJ,BD t l];cases Nat.beq u t<;>simp[sub]
  |_=>simp only[subs,sub,fJ,BD t l]
def aaN(hi:qO ρ ih ih')(f:aC)(ps:List Nat)(a b:aN):kK ρ (yO ih f ps a b fr lo h) (yO ih' (aQ ρ f) ps (lF ρ a) (lF ρ b) (subs ρ fr) (dB ρ lo) (dG ρ h)):=by
 simp only[yO,fV];generalize f.ev fr=F;cases F with
 |func fn first caps =>
  cases fn with
  |func q =>
   simp only[sub,xq];have h1:=hi.go (.call q (first++(.func (.yield h.next) [] []::caps))) [] [] (h.new (.loop ⟨0,none,qK fr,ps,a,b⟩));have h2:=Cb (ρ:=ρ) h (.loop ⟨0,none,qK fr,ps,a,b⟩);simp only[SE,Xy,<- Gg]at h2;rw[<- h2]at h1;simp only[Ii,qY,subs,sub]at h1;exact acP _ h1
  |_=>exact kK.fail _
 |_=>exact kK.fail _
def ahx(hi:qO ρ ih ih')(c:V)(a b:aN):kK ρ (I9 ih c a b fr lo h) (I9 ih' (sub ρ c) (lF ρ a) (lF ρ b) (subs ρ fr) (dB ρ lo) (dG ρ h)):=by
 cases c with
 |bool t =>
  simp only[I9,sub];cases t with
  |true=>exact hi.go (.code a) fr lo h
  |false=>exact hi.go (.code b) fr lo h
 |_=>exact kK.fail _
def adX(hi:qO ρ ih ih')(c:aN):kK ρ (aS ih c fr lo h) (aS ih' (lF ρ c) (subs ρ fr) (dB ρ lo) (dG ρ h)):=by
 cases c with
 |skip=>exact kK.rfl' _ rfl
 |label l=>exact kK.rfl' _ rfl
 |region l=>exact hi.go (.ops l) fr lo h
 |draw l=>exact hi.go (.draws l) fr lo h
 |seq a b=>exact TF hi b (hi.go (.code a) fr lo h)
 |cond c a b=>simp only[lF,aS,fV];exact ahx hi _ a b
 |block id c=>exact acM id (hi.go (.code c) fr lo h)
 |loop c=>exact TF hi (.loop c) (hi.go (.code c) fr lo h)
 |exit id=>exact kK.rfl' _ rfl
 |goto l=>exact kK.rfl' _ rfl
 |ret=>exact kK.rfl' _ rfl
 |scope c=>exact hi.go (.scope c c) fr lo h
 |rangeFunc f ps a b=>exact aaN hi f ps a b
def QF(d:Option Nat)(v:V):bG (subs ρ fr) d (sub ρ v)=subs ρ (bG fr d v):=by
 cases d with
 |none=>rfl
 |some t=>simp only[bG,Jf]
def Zq(hi:qO ρ ih ih')(os:List Ins)(d:Option Nat){o o':OR}(ho:dS ρ o o'):kK ρ (KC ih os fr d o) (KC ih' (yB ρ os) (subs ρ fr) d o'):=by
 cases o with
 |fail=>exact kK.fail _
 |ok v lo h =>
  rw[ho (by intro h;cases h)];simp only[KC,XB,QF];exact hi.go (.ops os) _ lo h
def acL(hi:qO ρ ih ih')(os:List Ins)(d:Nat){o o':OR}(ho:dS ρ o o'):kK ρ (KA ih os fr d o) (KA ih' (yB ρ os) (subs ρ fr) d o'):=by
 cases o with
 |fail=>exact kK.fail _
 |ok v lo h =>
  rw[ho (by intro h;cases h)];simp only[KA,XB,BD,Jf];exact hi.go (.ops os) _ lo h
def Zw(hi:qO ρ ih ih')(os:List Ins){lo:Lo}(d:Option Nat){o o':Out}(ho:kK ρ o o'):kK ρ (RZ ih os fr lo d o) (RZ ih' (yB ρ os) (subs ρ fr) (dB ρ lo) d o'):=by
 cases o with
 |val v h =>
  rw[ho (by intro h;cases h)];simp only[RZ,qA,QF];exact hi.go (.ops os) _ lo h
 |_=>exact kK.fail _
def LX(o:oM):bM (iD ρ o)=bM o:=by cases o<;>rfl
def ag5(ids:List Nat)(v:V):IZ ids (sub ρ v)=IZ ids v:=by
 cases v with
 |iface t w =>
  simp only[jH,IZ];cases Nat.beq t 1000000 with
  |false=>rfl
  |true =>
   simp only[cond_true];rcases jF (ρ:=ρ) w with⟨b,h⟩|⟨k,n,h⟩|⟨s,h⟩|h|⟨xs,e,h⟩<;>rw[h]
 |_=>simp only[sub,IZ]
def Jz(hi:qO ρ ih ih')(os:List Ins)(i:Ins):kK ρ (vV ih os i fr lo h) (vV ih' (yB ρ os) (Cc ρ i) (subs ρ fr) (dB ρ lo) (dG ρ h)):=by
 cases i with
 |op d o =>
  cases d with
  |some t =>
   simp only[vV,Cc,LX];cases bM o with
   |true=>exact acL hi os t (afC t o)
   |false=>exact Zq hi os (some t) (afC t o)
  |none =>
   simp only[vV,Cc,LX];cases bM o with
   |true=>exact kK.fail _
   |false=>exact Zq hi os none (afC 0 o)
 |call d f a0s =>
  simp only[vV,Cc,NG,wJ];cases iV (aC.evs a0s fr)with
  |true=>exact kK.fail _
  |false=>exact Zw hi os d (hi.go (.call f (aC.evs a0s fr)) [] [] h)
 |dyn d f a0s =>
  simp only[vV,Cc,NG,wJ,fV];cases iV (aC.evs a0s fr)with
  |true=>exact kK.fail _
  |false=>exact Zw hi os d (hi.go (.app (f.ev fr) (aC.evs a0s fr)) [] [] h)
 |defer ids f a0s =>
  simp only[vV,Cc,fV,ag5];cases IZ ids (f.ev fr)with
  |true=>exact hi.go (.ops os) fr lo h
  |false=>exact kK.fail _
 |grd t b d i=>exact kK.fail _
 |chk g t o=>exact kK.fail _
def N9:sub ρ (.tuple [])=.tuple []:=by simp only[sub,subs]
def ai1(hi:qO ρ ih ih')(os:List Ins)(t:Nat)(b:Bool)(d:Option Nat)(i:Ins):kK ρ (wE ih os t b d i fr lo h) (wE ih' (yB ρ os) t b d (Cc ρ i) (subs ρ fr) (dB ρ lo) (dG ρ h)):=by
 have skip:kK ρ (ih (.ops os) (bG fr d (.tuple [])) lo h) (ih' (.ops (yB ρ os)) (bG (subs ρ fr) d (.tuple [])) (dB ρ lo) (dG ρ h)):=by
  have:=hi.go (.ops os) (bG fr d (.tuple [])) lo h;rw[<- QF,N9]at this;exact this
 simp only[wE,xQ];generalize aA fr t=X;cases X with
 |bool c =>
  simp only[sub];cases (bif b then c else !c)with
  |true=>exact Jz hi os i
  |false=>exact skip
 |tuple vs =>
  cases vs with
  |nil=>simp only[N9];exact skip
  |cons v vs=>exact kK.fail _
 |_=>exact kK.fail _
def UF(hi:qO ρ ih ih')(os:List Ins)(i:Ins):kK ρ (kT ih os i fr lo h) (kT ih' (yB ρ os) (Cc ρ i) (subs ρ fr) (dB ρ lo) (dG ρ h)):=by
 cases i with
 |grd t b d i=>exact ai1 hi os t b d i
 |op d o=>exact Jz hi os (.op d o)
 |call d f a0s=>exact Jz hi os (.call d f a0s)
 |dyn d f a0s=>exact Jz hi os (.dyn d f a0s)
 |defer ids f a0s=>exact Jz hi os (.defer ids f a0s)
 |chk g t o=>exact kK.fail _
mutual
def ND:∀(a b:V),nT a b=true->nT (sub ρ a) (sub ρ b)=true
 |.undef,b,e=>by cases b<;>first|(cases e;done)|(simp only[sub];exact e)
 |.bool x,b,e=>by cases b<;>first|(cases e;done)|(simp only[sub];exact e)
 |.int k n,b,e=>by cases b<;>first|(cases e;done)|(simp only[sub];exact e)
 |.str s,b,e=>by cases b<;>first|(cases e;done)|(simp only[sub];exact e)
 |.nilPtr,b,e=>by cases b<;>first|(cases e;done)|(simp only[sub];exact e)
 |.aY _ _,b,e=>by cases b<;>first|(cases e;done)|(simp only[sub];exact e)
 |.bg _ _,b,e=>by cases b<;>first|(cases e;done)|(simp only[sub];exact e)
 |.iE x,b,e=>by cases b<;>first|(cases e;done)|(simp only[sub,nT]at e|-;exact zn _ _ e)
 |.aj,b,e=>by cases b<;>first|(cases e;done)|(simp only[sub];exact e)
 |.list x q,b,e=>by
  cases b with
  |list y r =>
   simp only[sub,nT,ah]at e|-;exact⟨e.1,zn _ _ e.2⟩
  |_=>cases e
 |.hsl _ _ _ _ _,b,e=>by cases b<;>first|(cases e;done)|(simp only[sub];exact e)
 |.fA,b,e=>by cases b<;>first|(cases e;done)|(simp only[sub];exact e)
 |.map _,b,e=>by cases b<;>first|(cases e;done)|(simp only[sub];exact e)
 |.nilFunc,b,e=>by cases b<;>first|(cases e;done)|(simp only[sub];exact e)
 |.func fn x y,b,e=>by
  cases b with
  |func fn2 x2 y2 =>
   cases fn<;>cases fn2<;>first|(cases e;done)|skip
   simp only[sub,nT,ah]at e|-;exact⟨⟨e.1.1,zn _ _ e.1.2⟩,zn _ _ e.2⟩
  |_=>cases fn<;>cases e
 |.nilIface,b,e=>by cases b<;>first|(cases e;done)|(simp only[sub];exact e)
 |.iface t v,b,e=>by
  cases b<;>first|(cases e;done)|skip
  rename_i u w;simp only[nT,ah]at e;have ht:=aP e.1;subst ht;simp only[jH];cases hb:Nat.beq t 1000000 with
  |true =>
   simp only[cond_true];rw[J4 e.2];exact IK _ (Good.flat w)
  |false =>
   simp only[cond_false,nT,ND v w e.2,cZ];simp
 |.agg x,b,e=>by cases b<;>first|(cases e;done)|(simp only[sub,nT]at e|-;exact zn _ _ e)
 |.tuple x,b,e=>by cases b<;>first|(cases e;done)|(simp only[sub,nT]at e|-;exact zn _ _ e)
def zn:∀(a b:List V),Au a b=true->Au (subs ρ a) (subs ρ b)=true
 |[],[],e=>by simp only[subs];exact e
 |[],_::_,e=>by cases e
 |_::_,[],e=>by cases e
 |a::a0s,b::bs,e=>by
  simp only[subs,Au,ah]at e|-;exact⟨ND a b e.1,zn a0s bs e.2⟩
end
def Tc(t:Nat)(o:oM)(e:yx t o fr lo h=true):yx t (iD ρ o) (subs ρ fr) (dB ρ lo) (dG ρ h)=true:=by
 have hr:=afC (ρ:=ρ) (fr:=fr) (lo:=lo) (h:=h) t o;simp only[yx]at e|-;cases ho:aK t o fr lo h with
 |fail=>rw[ho]at e;cases e
 |ok v lo2 h2 =>
  rw[ho]at e hr;rw[hr (by intro h;cases h),xQ];exact ND _ _ e
def ajX(g:Option (Nat×Bool))(t:Nat)(o:oM)(e:yg g t o fr lo h=true):yg g t (iD ρ o) (subs ρ fr) (dB ρ lo) (dG ρ h)=true:=by
 have skip:nT (.tuple []) (aA fr t)=true->nT (.tuple []) (aA (subs ρ fr) t)=true:=λe=>by
  have:=ND (ρ:=ρ) _ _ e;rw[N9,<- xQ]at this;exact this
 cases g with
 |none=>exact Tc t o e
 |some p =>
  obtain⟨s,b⟩:=p;simp only[yg,xQ (l:=fr) (n:=s)]at e|-;generalize aA fr s=X at e|-;cases X with
  |bool c =>
   simp only[sub]at e|-;cases hq:(bif b then c else !c)with
   |true=>rw[hq]at e;exact Tc t o e
   |false=>rw[hq]at e;exact skip e
  |tuple vs =>
   cases vs with
   |nil=>simp only[N9]at e|-;exact skip e
   |cons v vs=>cases e
  |_=>cases e
def al0{k k':List V->Lo->H->Out}(hk:∀fr lo h,kK ρ (k fr lo h) (k' (subs ρ fr) (dB ρ lo) (dG ρ h))){o o':Out}(ho:kK ρ o o'):kK ρ (Bz k o) (Bz k' o'):=by
 cases o with
 |norm fr lo h=>rw[ho (by intro h;cases h)];exact hk fr lo h
 |_=>exact kK.fail _
def aqP(hi:qO ρ ih ih'):qO ρ (CW ih) (CW ih') where
 go c fr lo h:=by
  cases c with
  |ops l=>exact kK.rfl' _ rfl
  |code c=>exact hi.go (.code c) fr lo h
  |draws l=>exact hi.go (.draws l) fr lo h
  |call f a0s=>exact hi.go (.call f a0s) fr lo h
  |app f a0s=>exact hi.go (.app f a0s) fr lo h
  |scope c r=>exact hi.go (.scope c r) fr lo h
def ai9(hi:qO ρ ih ih')(i:Ins){k k':List V->Lo->H->Out}(hk:∀fr lo h,kK ρ (k fr lo h) (k' (subs ρ fr) (dB ρ lo) (dG ρ h))):kK ρ (E8 ih i k fr lo h) (E8 ih' (Cc ρ i) k' (subs ρ fr) (dB ρ lo) (dG ρ h)):=by
 have other:kK ρ (Bz k (kT (CW ih) [] i fr lo h)) (Bz k' (kT (CW ih') [] (Cc ρ i) (subs ρ fr) (dB ρ lo) (dG ρ h))):=al0 hk (UF (aqP hi) [] i);cases i with
 |chk g t o =>
  simp only[E8,Cc];cases hq:yg g t o fr lo h with
  |false=>exact kK.fail _
  |true=>rw[ajX g t o hq];exact hk fr lo h
 |_=>exact other
def Uw(hi:qO ρ ih ih'):∀(l:List Ins) (fr:List V) (lo:Lo) (h:H),kK ρ (fG ih l fr lo h) (fG ih' (yB ρ l) (subs ρ fr) (dB ρ lo) (dG ρ h))
 |[],fr,lo,h=>kK.rfl' _ rfl
 |i::l,fr,lo,h=>ai9 hi i (Uw hi l)
def ai5(hi:qO ρ ih ih')(l:List Ins):kK ρ (aZ ih l fr lo h) (aZ ih' (yB ρ l) (subs ρ fr) (dB ρ lo) (dG ρ h)):=by
 cases l with
 |nil=>exact kK.rfl' _ rfl
 |cons i os=>exact UF hi os i
def KX(l st:Nat)(p:Option Jump)(lp:Ee):setSt l st p (Xy ρ lp) (dG ρ h)=dG ρ (setSt l st p lp h):=by
 simp only[setSt,Xy];exact JC h l (.loop ⟨st,p,lp.fr,lp.params,lp.assign,lp.body⟩)
def Zr(l:Nat){o o':Out}(ho:kK ρ o o'):kK ρ (yI l o) (yI l o'):=by
 cases o with
 |norm fr lo h =>
  rw[ho (by intro h;cases h)];simp only[yI,qA,xO];cases getLoop h l with
  |none=>exact kK.fail _
  |some lp=>exact kK.rfl' _ (by simp only[bT,KX,qA,sub])
 |jump j fr lo h =>
  rw[ho (by intro h;cases h)];simp only[yI,qA,xO];cases getLoop h l with
  |none=>exact kK.fail _
  |some lp=>exact kK.rfl' _ (by simp only[bT,KX,qA,sub])
 |_=>exact kK.fail _
def acQ(hi:qO ρ ih ih')(l:Nat)(body:aN){o o':Out}(ho:kK ρ o o'):kK ρ (H6 ih l body o) (H6 ih' l (lF ρ body) o'):=by
 cases o with
 |norm fr lo h =>
  rw[ho (by intro h;cases h)];simp only[H6,qA,xO];cases getLoop h l with
  |none=>exact kK.fail _
  |some lp =>
   simp only[bT];have hst:(Xy ρ lp).st=lp.st:=rfl;have hp:(Xy ρ lp).pending=lp.pending:=rfl;rw[hst,hp,KX];cases Nat.beq lp.st 0 with
   |false=>exact kK.fail _
   |true=>exact Zr l (hi.go (.code body) fr lo _)
 |_=>exact kK.fail _
def Uz:∀(ts:List Nat) (vs fr:List V),xW ts (subs ρ vs) (subs ρ fr)=(xW ts vs fr).map (subs ρ)
 |[],[],fr=>by simp only[subs,xW,bT]
 |[],v::vs,fr=>by simp only[subs,xW,dW]
 |t::ts,[],fr=>by simp only[subs,xW,dW]
 |t::ts,v::vs,fr=>by simp only[subs,xW,Jf,Uz ts vs]
def aaO(hi:qO ρ ih ih')(l:Nat)(args:List V):kK ρ (xG ih l args h) (xG ih' l (subs ρ args) (dG ρ h)):=by
 simp only[xG,xO];cases getLoop h l with
 |none=>exact kK.fail _
 |some lp =>
  simp only[bT,Xy];cases Nat.beq lp.st 0 with
  |false=>exact kK.fail _
  |true =>
   simp only[cond_true,Uz];cases xW lp.params args lp.fr with
   |none=>exact kK.fail _
   |some fr=>exact acQ hi l lp.body (hi.go (.code lp.assign) fr [] h)
def ai0(hi:qO ρ ih ih')(f:V)(args:List V):kK ρ (MN ih f args fr lo h) (MN ih' (sub ρ f) (subs ρ args) (subs ρ fr) (dB ρ lo) (dG ρ h)):=by
 cases f with
 |func fn first caps =>
  cases fn with
  |func g =>
   have:=hi.go (.call g (first++(args++caps))) fr lo h;simp only[Ii,qY]at this;simp only[sub,MN];exact this
  |yield l =>
   cases first with
   |nil=>simp only[sub,subs,MN];exact aaO hi l args
   |cons a a0s=>exact kK.fail _
  |_=>exact kK.fail _
 |_=>exact kK.fail _
def aao:∀(rs:List (Nat×Bool×Bool×Nat)) (vs:List V),resV fr lo h rs=some vs->resV (subs ρ fr) (dB ρ lo) (dG ρ h) rs=some (subs ρ vs)
 |[],vs,e=>by cases e;simp only[resV,subs]
 |(t,c,ag,sz)::r,vs,e=>by
  have key:∀(o o':Option V),(∀v,o=some v->o'=some (sub ρ v))->(match o with|none=>none|some v=>bif bK v then none else(match resV fr lo h r with|some vs=>some (v::vs)|none=>none))=some vs->(match o' with|none=>none|some v=>bif bK v then none else(match resV (subs ρ fr) (dB ρ lo) (dG ρ h) r with|some vs=>some (v::vs)|none=>none))=some (subs ρ vs):=by
   intro o o' ho e;cases o with
   |none=>cases e
   |some v =>
    rw[ho v rfl];dsimp only at e|-;rw[Kz];cases hl:bK v with
    |true=>rw[hl]at e;cases e
    |false =>
     rw[hl]at e;simp only[cond_false]at e|-;cases hr:resV fr lo h r with
     |none=>rw[hr]at e;cases e
     |some ws=>rw[hr]at e;cases e;rw[aao r ws hr];simp only[subs]
  simp only[resV]at e|-;cases c with
  |true =>
   simp only[cond_true]at e|-;refine key _ _ (λv hv=>?_) e;cases hc:aF (aA fr t) lo h with
   |none=>rw[hc]at hv;cases hv
   |some cs=>rw[hc]at hv;rw[xQ,Ei hc];dsimp only at hv|-;rw[sH];exact Wv hv
  |false =>
   simp only[cond_false]at e|-;exact key (some (aA fr t)) (some (aA (subs ρ fr) t)) (λv hv=>by cases hv;rw[xQ]) e
def UL(vs:List V):dI (subs ρ vs)=sub ρ (dI vs):=by
 match vs with
 |[]=>simp only[subs,dI,sub]
 |[v]=>simp only[subs,dI]
 |a::b::r=>simp only[subs,dI,sub]
def TK(fn:bF):kK ρ (leave fn fr lo h) (leave fn (subs ρ fr) (dB ρ lo) (dG ρ h)):=by
 simp only[leave,finish];cases he:resV fr lo h fn.results with
 |none=>exact kK.fail _
 |some vs =>
  rw[aao _ vs he];dsimp only;cases fn.qo with
  |true =>
   simp only[cond_true,UL,VJ,XA];exact kK.rfl' _ rfl
  |false=>simp only[cond_false,UL];exact kK.rfl' _ rfl
def ahw(fn:bF){o o':Out}(ho:kK ρ o o'):kK ρ (wC fn o) (wC fn o'):=by
 cases o with
 |norm fr lo h=>rw[ho (by intro h;cases h)];exact TK fn
 |jump j fr lo h =>
  rw[ho (by intro h;cases h)];cases j with
  |ret=>exact TK fn
  |_=>exact kK.fail _
 |_=>exact kK.fail _
def WT:∀(n:Nat) (xs:List V),pad n (subs ρ xs)=subs ρ (pad n xs)
 |0,xs=>rfl
 |n+1,[]=>by
  have:=WT n [];rw[Fa]at this;rw[Fa];show V.undef::pad n []=subs ρ (V.undef::pad n []);rw[xw,<- this];simp only[sub]
 |n+1,x::xs=>by simp only[subs,pad,WT n xs]
def aqk(n:Nat)(args:List V):kK ρ (ext n args h) (ext n (subs ρ args) (dG ρ h)):=by
 intro hne;unfold ext at hne|-
 split at hne
 .rename_i b c;simp only[subs,sub];cases hc:Nat.blt c 256 with
  |false=>rw[hc]at hne;exact absurd rfl hne
  |true =>
   rw[hc]at hne;rw[cond_true]at hne|-;rw[cond_true];cases hb:bytesIn h b with
   |none=>rw[hb]at hne;exact absurd rfl hne
   |some bs =>
    rw[Ef hb];dsimp only[qA];cases Nh bs c 0<;>simp only[alB,sub]
 .rename_i b c;simp only[subs,sub];cases hc:Nat.blt c 256 with
  |false=>rw[hc]at hne;exact absurd rfl hne
  |true =>
   simp only[cond_true,qA];cases Nh b c 0<;>simp only[alB,sub]
 .rename_i b c;simp only[subs,sub];cases hc:Nat.blt c 256 with
  |false=>rw[hc]at hne;exact absurd rfl hne
  |true =>
   rw[hc]at hne;simp only[cond_true]at hne|-;cases hb:bytesIn h b with
   |none=>rw[hb]at hne;exact absurd rfl hne
   |some bs=>rw[Ef hb];simp only[qA,sub]
 .exact absurd rfl hne
variable {mm mm':eF}{fns:Nat->Option bF}
structure yD (ρ:V->V)(mm mm':eF)(fns:Nat->Option bF):Prop where
 known:∀f args v,ay mm f args=some v->ay mm' f (subs ρ args)=some (sub ρ v)
 bare:∀f vf,fns f=some vf->(∀a,ay mm' f a=none)/\lF ρ vf.body=vf.body
def adW(hi:qO ρ ih ih')(hm:yD ρ mm mm' fns)(f:Nat)(args:List V):kK ρ (yj fns ih f args h) (yj fns ih' f (subs ρ args) (dG ρ h)):=by
 simp only[yj];cases hf:fns f with
 |none=>exact kK.fail _
 |some vf =>
  dsimp only;cases Nat.beq vf.ext 0 with
  |false=>exact aqk vf.ext args
  |true =>
   simp only[cond_true];have h1:=hi.go (.code vf.body) (pad vf.nt args) [] h;simp only[Ii,(hm.bare f vf hf).2,<- WT]at h1;exact ahw vf h1
def an7(hi:qO ρ ih ih')(hm:yD ρ mm mm' fns):qO ρ (stepM mm fns ih) (stepM mm' fns ih') where
 go c fr lo h:=by
  cases c with
  |code c=>exact adX hi c
  |ops l=>exact ai5 hi l
  |draws l=>exact Uw hi l fr lo h
  |app f a0s=>exact ai0 hi f a0s
  |scope c r=>exact acS hi c (hi.go (.code r) fr lo h)
  |call f a0s =>
   simp only[stepM,Ii];cases hr:ay mm f a0s with
   |some v=>rw[hm.known f a0s v hr];exact kK.rfl' _ rfl
   |none =>
    dsimp only;cases hf:fns f with
    |none=>simp only[yj,hf];exact kK.fail _
    |some vf=>rw[(hm.bare f vf hf).1];exact adW hi hm f a0s
def Xi(hm:yD ρ mm mm' fns):∀n,qO ρ (runM mm fns n) (runM mm' fns n)
 |0=>⟨λ_ _ _ _=>kK.fail _⟩
 |n+1=>an7 (Xi hm n) hm
end
section
open Go Go.RowKit
variable {P:Program}{Hn:Hints}{mm mm':eF}{fns:Nat->Option bF}{ρ:V->V}
def ajq(P:Program)(Hn:Hints)(f:Nat)(a:List V)(v:V):Prop:=∀σ,qm P Hn f a σ (.val v σ)
def XW(hs:∀n,Rz P Hn (runM mm fns n)){n:Nat}{f:Nat}{a:List V}{v:V}{h1:H}(he:runM mm fns n (.call f a) [] [] emp=.val v h1)(ha:aW a=true)(hv:aO v=true):ajq P Hn f a v:=fun σ=>by
 have hc:=(hs n).call f a emp;rw[he]at hc;exact Hq hc ha hv σ
end
section
open Go Go.RowKit
variable {mm:eF}{fns:Nat->Option bF}
def dR(n:Nat)(c:aN)(fr:List V)(lo:Lo)(h:H):runM mm fns (n+1) (.code c) fr lo h=aS (runM mm fns n) c fr lo h:=rfl
def anG(n:Nat)(c:List Ins)(fr:List V)(lo:Lo)(h:H):runM mm fns (n+1) (.ops c) fr lo h=aZ (runM mm fns n) c fr lo h:=rfl
def adG(n:Nat)(c:List Ins)(fr:List V)(lo:Lo)(h:H):runM mm fns (n+1) (.draws c) fr lo h=fG (runM mm fns n) c fr lo h:=rfl
def adH(n:Nat)(c r:aN)(fr:List V)(lo:Lo)(h:H):runM mm fns (n+1) (.scope c r) fr lo h=uy (runM mm fns n) c (runM mm fns n (.code r) fr lo h):=rfl
def anF(n:Nat)(f:V)(a:List V)(fr:List V)(lo:Lo)(h:H):runM mm fns (n+1) (.app f a) fr lo h=MN (runM mm fns n) f a fr lo h:=rfl
def dJ{n f:Nat}{a:List V}{v:V}{fr:List V}{lo:Lo}{h:H}(e:ay mm f a=some v):runM mm fns (n+1) (.call f a) fr lo h=.val v h:=by
 show stepM mm fns (runM mm fns n) (.call f a) fr lo h=_;simp only[stepM,e]
def bn{n f:Nat}{a:List V}{fr:List V}{lo:Lo}{h:H}{vf:bF}(e:ay mm f a=none)(hf:fns f=some vf)(hx:vf.ext=0):runM mm fns (n+1) (.call f a) fr lo h=wC vf (runM mm fns n (.code vf.body) (pad vf.nt a) [] h):=by
 show stepM mm fns (runM mm fns n) (.call f a) fr lo h=_;simp only[stepM,e,yj,hf,hx];rfl
variable {ih:Ih}{b:aN}{fr:List V}{lo:Lo}{h:H}{os:List Ins}{d:Option Nat}{v:V}
def iR:jC ih b (.norm fr lo h)=ih (.code b) fr lo h:=rfl
def qP(j:Jump):jC ih b (.jump j fr lo h)=.jump j fr lo h:=rfl
def Zo(id:Nat):iw id (.norm fr lo h)=.norm fr lo h:=rfl
def iO(id j:Nat):iw id (.jump (.exit j) fr lo h)=bif Nat.beq j id then .norm fr lo h else .jump (.exit j) fr lo h:=rfl
def PV(id:Nat):iw id (.jump .ret fr lo h)=.jump .ret fr lo h:=rfl
def Zn(id l:Nat):iw id (.jump (.goto l) fr lo h)=.jump (.goto l) fr lo h:=rfl
def Zv:uy ih b (.norm fr lo h)=.norm fr lo h:=rfl
def acR:uy ih b (.jump .ret fr lo h)=.jump .ret fr lo h:=rfl
def Zt(j:Nat):uy ih b (.jump (.exit j) fr lo h)=.jump (.exit j) fr lo h:=rfl
def kGo(ih:Ih)(b:aN)(l:Nat)(fr:List V)(lo:Lo)(h:H)(o:Option aN):Out:=match o with|some r=>ih (.scope b r) fr lo h|none=>.jump (.goto l) fr lo h
def Zu(l:Nat):uy ih b (.jump (.goto l) fr lo h)=kGo ih b l fr lo h (findLabel b l):=rfl
def alZ(l:Nat)(r:aN):kGo ih b l fr lo h (some r)=ih (.scope b r) fr lo h:=rfl
def alY(l:Nat):kGo ih b l fr lo h none=.jump (.goto l) fr lo h:=rfl
def acO(c e:aN):I9 ih (.bool true) c e fr lo h=ih (.code c) fr lo h:=rfl
def Zp(c e:aN):I9 ih (.bool false) c e fr lo h=ih (.code e) fr lo h:=rfl
def ara:KC ih os fr d (.ok v lo h)=ih (.ops os) (bG fr d v) lo h:=rfl
def ahu(t:Nat):KA ih os fr t (.ok v lo h)=ih (.ops os) (lC (fJ t fr) t v) lo h:=rfl
def al1:RZ ih os fr lo d (.val v h)=ih (.ops os) (bG fr d v) lo h:=rfl
def acN(f:bF):wC f (.norm fr lo h)=leave f fr lo h:=rfl
def ahv(f:bF):wC f (.jump .ret fr lo h)=leave f fr lo h:=rfl
def ahy(k:List V->Lo->H->Out):Bz k (.norm fr lo h)=k fr lo h:=rfl
def anZ{t:Nat}{b:Bool}{i:Ins}(e:aA fr t=.bool b):wE ih os t b d i fr lo h=vV ih os i fr lo h:=by
 cases b<;>simp only[wE,e,cond_true,cond_false,Bool.not_false]
def adZ{t:Nat}{b:Bool}{i:Ins}(e:aA fr t=.bool (!b)):wE ih os t b d i fr lo h=ih (.ops os) (bG fr d (.tuple [])) lo h:=by
 cases b<;>simp only[wE,e,cond_true,cond_false,Bool.not_false,Bool.not_true]
def adY{t:Nat}{b:Bool}{i:Ins}(e:aA fr t=.tuple []):wE ih os t b d i fr lo h=ih (.ops os) (bG fr d (.tuple [])) lo h:=by
 simp only[wE,e]
def awf{x}:bM (.mv x)=false:=rfl
def alM{c}{a}{b}:bM (.pick c a b)=false:=rfl
def acr{z}:bM (.jy z)=false:=rfl
def alJ{x}:bM (.Gw x)=false:=rfl
def ag9{z}{p}:bM (.build z p)=false:=rfl
def aqX{z}{a}{b}{p}:bM (.lit z a b p)=false:=rfl
def ahd{a}:bM (.qR a)=false:=rfl
def ahe{n}{a}:bM (.qI n a)=false:=rfl
def ahj{n}{a}{x}:bM (.store n a x)=false:=rfl
def ahh{x}:bM (.tK x)=false:=rfl
def awe{n}{c}{x}{y}:bM (.eq n c x y)=false:=rfl
def aqU{o}{x}{y}:bM (.bin o x y)=false:=rfl
def aq1{x}:bM (.not x)=false:=rfl
def aq0{x}:bM (.neg x)=false:=rfl
def Za{k}{x}:bM (.mM k x)=false:=rfl
def ahk{x}:bM (.zN x)=false:=rfl
def alN{x}:bM (.Ic x)=false:=rfl
def Zg{x}:bM (.nG x)=false:=rfl
def ahl{x}:bM (.toStr x)=false:=rfl
def Zd{t}{x}:bM (.pF t x)=false:=rfl
def acA{f}{a}{b}:bM (.l9 f a b)=false:=rfl
def ahf :bM (.mkMap)=false:=rfl
def Ze{z}{l}{c}:bM (.mkSlice z l c)=false:=rfl
def ahi{s}{n}{x}{l}{h}{m}:bM (.slice s n x l h m)=false:=rfl
def RS{o}{x}:bM (.fieldAddr o x)=false:=rfl
def ahb{a}{o}{n}{x}:bM (.field a o n x)=false:=rfl
def Zc{n}{x}{i}:bM (.ji n x i)=false:=rfl
def acu{s}{n}{x}{i}:bM (.wS s n x i)=false:=rfl
def ahc{x}{i}:bM (.index x i)=false:=rfl
def acv{a}{s}{n}{x}{i}:bM (.uw a s n x i)=false:=rfl
def acw{k}{z}{o}{m}{q}:bM (.lookup k z o m q)=false:=rfl
def acz{k}{m}{q}{x}:bM (.vI k m q x)=false:=rfl
def acy{c}{z}{m}{k}:bM (.wY c z m k)=false:=rfl
def VX{m}{s}{x}:bM (.oz m s x)=false:=rfl
def Zb{i}{x}:bM (.extract i x)=false:=rfl
def aqW{c}{x}:bM (.len c x)=false:=rfl
def aqV{x}:bM (.cap x)=false:=rfl
def aqY{x}{y}:bM (.max x y)=false:=rfl
def aqZ{x}{y}:bM (.min x y)=false:=rfl
def acs{n}{x}{y}:bM (.append n x y)=false:=rfl
def Y9{z}{x}{n}:bM (.qE z x n)=false:=rfl
def alL{n}{x}{y}:bM (.copy n x y)=false:=rfl
def aha{z}{x}:bM (.clear z x)=false:=rfl
def ahg{x}{y}:bM (.qJ x y)=false:=rfl
def VY{z}{l}{c}:bM (.ni z l c)=false:=rfl
def Zf :bM (.recover)=false:=rfl
def ag8{z}:bM (.alloc z)=true:=rfl
def alK{x}:bM (.CJ x)=true:=rfl
def an1(d:Option Nat)(o:oM):kT ih os (.op d o) fr lo h=vV ih os (.op d o) fr lo h:=rfl
def ad1(d:Option Nat)(f:Nat)(a:List aC):kT ih os (.call d f a) fr lo h=vV ih os (.call d f a) fr lo h:=rfl
def ai3(d:Option Nat)(f:aC)(a:List aC):kT ih os (.dyn d f a) fr lo h=vV ih os (.dyn d f a) fr lo h:=rfl
def ai4(t:Nat)(b:Bool)(d:Option Nat)(i:Ins):kT ih os (.grd t b d i) fr lo h=wE ih os t b d i fr lo h:=rfl
def aoS{t:Nat}{o:oM}(e:bM o=false):vV ih os (.op (some t) o) fr lo h=KC ih os fr (some t) (aK t o fr lo h):=by simp only[vV,e,cond_false]
def ai2{t:Nat}{o:oM}(e:bM o=true):vV ih os (.op (some t) o) fr lo h=KA ih os fr t (aK t o fr lo h):=by simp only[vV,e,cond_true]
def asG{o:oM}(e:bM o=false):vV ih os (.op none o) fr lo h=KC ih os fr none (aK 0 o fr lo h):=by simp only[vV,e,cond_false]
def an0{f:Nat}{a:List aC}(e:iV (aC.evs a fr)=false):vV ih os (.call d f a) fr lo h=RZ ih os fr lo d (ih (.call f (aC.evs a fr)) [] [] h):=by simp only[vV,e,cond_false]
def asF{f:aC}{a:List aC}(e:iV (aC.evs a fr)=false):vV ih os (.dyn d f a) fr lo h=RZ ih os fr lo d (ih (.app (f.ev fr) (aC.evs a fr)) [] [] h):=by simp only[vV,e,cond_false]
def ai6{g:Option (Nat×Bool)}{t:Nat}{o:oM}{k:List V->Lo->H->Out}(e:yg g t o fr lo h=true):E8 ih (.chk g t o) k fr lo h=k fr lo h:=by simp only[E8,e,cond_true]
def an2(d:Option Nat)(o:oM)(k:List V->Lo->H->Out):E8 ih (.op d o) k fr lo h=Bz k (vV (CW ih) [] (.op d o) fr lo h):=rfl
def ad2(d:Option Nat)(f:Nat)(a:List aC)(k:List V->Lo->H->Out):E8 ih (.call d f a) k fr lo h=Bz k (vV (CW ih) [] (.call d f a) fr lo h):=rfl
def ai7(d:Option Nat)(f:aC)(a:List aC)(k:List V->Lo->H->Out):E8 ih (.dyn d f a) k fr lo h=Bz k (vV (CW ih) [] (.dyn d f a) fr lo h):=rfl
def ai8(t:Nat)(b:Bool)(d:Option Nat)(i:Ins)(k:List V->Lo->H->Out):E8 ih (.grd t b d i) k fr lo h=Bz k (wE (CW ih) [] t b d i fr lo h):=rfl
def ajf(l:List Ins):CW ih (.ops l) fr lo h=.norm fr lo h:=rfl
def alC(f:Nat)(a:List V):CW ih (.call f a) fr lo h=ih (.call f a) fr lo h:=rfl
def aqO(f:V)(a:List V):CW ih (.app f a) fr lo h=ih (.app f a) fr lo h:=rfl
def adV(g:Nat)(first caps args:List V):MN ih (.func (.func g) first caps) args fr lo h=ih (.call g (first++(args++caps))) fr lo h:=rfl
def Z8{c a b:aC}(e:c.ev fr=.bool true):vS c a b fr lo h=.ok (a.ev fr) lo h:=by simp only[vS,e,cond_true]
def WL{c a b:aC}(e:c.ev fr=.bool false):vS c a b fr lo h=.ok (b.ev fr) lo h:=by simp only[vS,e,cond_false]
def isVal(v:V):Bool:=match v with|.aY _ _=>false|.undef=>false|_=>true
def Zm :isVal .undef=false:=rfl
def acF{b}:isVal (.bool b)=true:=rfl
def ahr{k}{n}:isVal (.int k n)=true:=rfl
def aht{s}:isVal (.str s)=true:=rfl
def V4 :isVal .nilPtr=true:=rfl
def acK{a}{b}:isVal (.aY a b)=false:=rfl
def acI{a}{b}:isVal (.bg a b)=true:=rfl
def acG{l}:isVal (.iE l)=true:=rfl
def Zj :isVal .aj=true:=rfl
def acJ{l}{e}:isVal (.list l e)=true:=rfl
def ahq{a}{b}{c}{d}{e}:isVal (.hsl a b c d e)=true:=rfl
def V3 :isVal .fA=true:=rfl
def ahs{i}:isVal (.map i)=true:=rfl
def RY :isVal .nilFunc=true:=rfl
def acH{f}{a}{b}:isVal (.func f a b)=true:=rfl
def PS :isVal .nilIface=true:=rfl
def ahp{l}:isVal (.agg l)=true:=rfl
def Zl{l}:isVal (.tuple l)=true:=rfl
def Yc :V.cells .undef=[.undef]:=rfl
def ah9 :qW .undef=false:=rfl
def abD{b}:V.cells (.bool b)=[(.bool b)]:=rfl
def amI{b}:qW (.bool b)=true:=rfl
def ags{k}{n}:V.cells (.int k n)=[(.int k n)]:=rfl
def Ak{k}{n}:qW (.int k n)=true:=rfl
def agu{s}:V.cells (.str s)=[(.str s)]:=rfl
def afp{s}:qW (.str s)=true:=rfl
def Vd :V.cells .nilPtr=[.nilPtr]:=rfl
def adn :qW .nilPtr=true:=rfl
def abI{a}{b}:V.cells (.aY a b)=[(.aY a b)]:=rfl
def amN{a}{b}:qW (.aY a b)=false:=rfl
def abG{a}{b}:V.cells (.bg a b)=[(.bg a b)]:=rfl
def amL{a}{b}:qW (.bg a b)=true:=rfl
def abE{l}:V.cells (.iE l)=[(.iE l)]:=rfl
def amJ{l}:qW (.iE l)=true:=rfl
def Ya :V.cells .aj=[.aj]:=rfl
def BO :qW .aj=true:=rfl
def abH{l}{e}:V.cells (.list l e)=[(.list l e)]:=rfl
def amM{l}{e}:qW (.list l e)=true:=rfl
def agq{a}{b}{c}{d}{e}:V.cells (.hsl a b c d e)=[(.hsl a b c d e)]:=rfl
def arS{a}{b}{c}{d}{e}:qW (.hsl a b c d e)=true:=rfl
def Vb :V.cells .fA=[.fA]:=rfl
def adl :qW .fA=true:=rfl
def agt{i}:V.cells (.map i)=[(.map i)]:=rfl
def arT{i}:qW (.map i)=true:=rfl
def RJ :V.cells .nilFunc=[.nilFunc]:=rfl
def ZY :qW .nilFunc=true:=rfl
def cells_func{f}{a}{b}:V.cells (.func f a b)=[(.func f a b)]:=rfl
def amK{f}{a}{b}:qW (.func f a b)=true:=rfl
def OE :V.cells .nilIface=[.nilIface]:=rfl
def WJ :qW .nilIface=true:=rfl
def agp{l}:V.cells (.agg l)=l:=rfl
def arR{l}:qW (.agg l)=false:=rfl
def Yb{l}:V.cells (.tuple l)=[(.tuple l)]:=rfl
def ah8{l}:qW (.tuple l)=false:=rfl
def ajg{sz:Nat}{a x:aC}(e:isVal (x.ev fr)=true):lq sz a x fr lo h=bif Nat.beq (x.ev fr).cells.length sz&&bf (x.ev fr).cells then bH (a.ev fr) (x.ev fr).cells lo h else .fail:=by
 unfold lq;generalize x.ev fr=X at e;cases X<;>first|rfl|cases e
def aoR{t:Nat}{x:aC}(e:isVal (x.ev fr)=true):AP t x fr lo h=.ok (.aY t 0) (eP lo t (x.ev fr).cells) h:=by
 unfold AP;generalize x.ev fr=X at e;cases X<;>first|rfl|cases e
def aoQ{x:aC}(e:isVal (x.ev fr)=true):Dq x fr lo h=.ok (.bg h.next 0) lo (h.new (.cells (x.ev fr).cells)):=by
 unfold Dq;generalize x.ev fr=X at e;cases X<;>first|rfl|cases e
def axI{cells:List V}{off sz:Nat}{x:aC}{r:List (Nat×Nat×aC)}(e:isVal (x.ev fr)=true):fill cells ((off,sz,x)::r) fr=bif Nat.beq (x.ev fr).cells.length sz then(match splice off cells (x.ev fr).cells with|some cs=>fill cs r fr|none=>none)else none:=by
 simp only[fill];generalize x.ev fr=X at e;cases X<;>first|rfl|cases e
def atA{cells:List V}:fill cells [] fr=some cells:=by simp only[fill]
end
section
open Go Go.RowKit
def I(ns:List Int):List V:=ns.map (V.int .i64)
def nd(k n:Int)(nm:List Nat)(ks:V):V:=.agg [.int .i64 k,.int .i64 n,.str nm,ks]
variable {mm:eF}
def aDt:(0:Int)=Int.ofNat 0:=rfl
def aDu:(1:Int)=Int.ofNat 1:=rfl
def aDv:(2:Int)=Int.ofNat 2:=rfl
def aDw:(3:Int)=Int.ofNat 3:=rfl
def aDx:(4:Int)=Int.ofNat 4:=rfl
def aDy:(5:Int)=Int.ofNat 5:=rfl
def aDz:(6:Int)=Int.ofNat 6:=rfl
def aDA:(7:Int)=Int.ofNat 7:=rfl
def aDB:(8:Int)=Int.ofNat 8:=rfl
def awq:(181:Int)=Int.ofNat 181:=rfl
def awr:(254:Int)=Int.ofNat 254:=rfl
def awt:(255:Int)=Int.ofNat 255:=rfl
def aru:(5000:Int)=Int.ofNat 5000:=rfl
def awo:(130:Int)=Int.ofNat 130:=rfl
def awp:(140:Int)=Int.ofNat 140:=rfl
def aww(a b:Nat):wX (.ofNat a) (.ofNat b)=Nat.blt a b:=rfl
def awx(a b:Nat):wX (.ofNat a) (.negSucc b)=false:=rfl
def awy(a b:Nat):wX (.negSucc a) (.ofNat b)=true:=rfl
def avw(a b:Nat):sK (.ofNat a) (.ofNat b)=Nat.beq a b:=rfl
def au9(a b:Nat):Int.add (.ofNat a) (.ofNat b)=.ofNat (a+b):=rfl
def ao0(m:Nat):xZ .i64 (.ofNat m)=bif Nat.blt m 9223372036854775808 then .ofNat m else IntKind.i64.wrap (.ofNat m):=rfl
def F5(h:H):lenOf h 0 .aj=some 0:=rfl
def qQ(h:H)(l:List V)(e:Bool):lenOf h 0 (.list l e)=some l.length:=rfl
def yT(h:H)(a b c:Nat)(d:Option Nat)(e:Nat):lenOf h 0 (.hsl a b c d e)=some c:=rfl
def ahR(h:H)(s:List Nat):lenOf h 1 (.str s)=some s.length:=rfl
def wo(v:V):Bool:=match v with|.aY _ _=>true|_=>false
def ajD:iV []=false:=rfl
def ajC(v:V)(l:List V):iV (v::l)=bif wo v then true else iV l:=by cases v<;>rfl
def aho:wo .undef=false:=rfl
def alO(b:Bool):wo (.bool b)=false:=rfl
def aq4(k:IntKind)(n:Int):wo (.int k n)=false:=rfl
def aq6(s:List Nat):wo (.str s)=false:=rfl
def acC:wo .nilPtr=false:=rfl
def alT(a b:Nat):wo (.aY a b)=true:=rfl
def alR(a b:Nat):wo (.bg a b)=false:=rfl
def alP(l:List V):wo (.iE l)=false:=rfl
def ahm:wo .aj=false:=rfl
def alS(l:List V)(e:Bool):wo (.list l e)=false:=rfl
def aq3(a b c:Nat)(d:Option Nat)(e:Nat):wo (.hsl a b c d e)=false:=rfl
def acB:wo .fA=false:=rfl
def aq5(a:Nat):wo (.map a)=false:=rfl
def Zi:wo .nilFunc=false:=rfl
def alQ(f:Fn)(a b:List V):wo (.func f a b)=false:=rfl
def aq2(l:List V):wo (.agg l)=false:=rfl
def ahn(l:List V):wo (.tuple l)=false:=rfl
def WW:=aI9 @dR (aI9 @anG (aI9 @adG (aI9 @adH (aI9 @anF (aI9 @an1 (aI9 @ad1 (aI9 @ai3 (aI9 @ai4 (aI9 @aoS (aI9 @ai2 (aI9 @asG (aI9 @an0 (aI9 @asF (aI9 @anZ (aI9 @adZ (aI9 @adY (aI9 @adV (aI9 @awf (aI9 @alM (aI9 @acr (aI9 @alJ (aI9 @ag9 (aI9 @aqX (aI9 @ahd (aI9 @ahe (aI9 @ahj (aI9 @ahh (aI9 @awe (aI9 @aqU (aI9 @aq1 (aI9 @aq0 (aI9 @Za (aI9 @ahk (aI9 @alN (aI9 @Zg (aI9 @ahl (aI9 @Zd (aI9 @acA (aI9 @ahf (aI9 @Ze (aI9 @ahi (aI9 @RS (aI9 @ahb (aI9 @Zc (aI9 @acu (aI9 @ahc (aI9 @acv (aI9 @acw (aI9 @acz (aI9 @acy (aI9 @VX (aI9 @Zb (aI9 @aqW (aI9 @aqV (aI9 @aqY (aI9 @aqZ (aI9 @acs (aI9 @Y9 (aI9 @alL (aI9 @aha (aI9 @ahg (aI9 @VY (aI9 @Zf (aI9 @ag8 (aI9 @alK (aI9 @Z8 (aI9 @WL (aI9 @aoR (aI9 @aoQ (aI9 @ajg (aI9 @ahu (aI9 @ara (aI9 @al1 (aI9 @iR (aI9 @qP (aI9 @acO (aI9 @Zp (aI9 @Zo (aI9 @iO (aI9 @PV (aI9 @Zn (aI9 @Zv (aI9 @acR (aI9 @Zt (aI9 @Zu (aI9 @alZ (aI9 @alY (aI9 @acN (aI9 @ahv (aI9 @ahy (aI9 @ai6 (aI9 @an2 (aI9 @ad2 (aI9 @ai7 (aI9 @ai8 (aI9 @ajf (aI9 @alC (aI9 @aqO (aI9 @kG (aI9 @iL (aI9 @Jb (aI9 @wW (aI9 @su (aI9 @Yc (aI9 @ah9 (aI9 @abD (aI9 @amI (aI9 @ags (aI9 @Ak (aI9 @agu (aI9 @afp (aI9 @Vd (aI9 @adn (aI9 @abI (aI9 @amN (aI9 @abG (aI9 @amL (aI9 @abE (aI9 @amJ (aI9 @Ya (aI9 @BO (aI9 @abH (aI9 @amM (aI9 @agq (aI9 @arS (aI9 @Vb (aI9 @adl (aI9 @agt (aI9 @arT (aI9 @RJ (aI9 @ZY (aI9 @cells_func (aI9 @amK (aI9 @OE (aI9 @WJ (aI9 @agp (aI9 @arR (aI9 @Yb (aI9 @ah8 (aI9 @ajC (aI9 @ajD (aI9 @aho (aI9 @alO (aI9 @aq4 (aI9 @aq6 (aI9 @acC (aI9 @alT (aI9 @alR (aI9 @alP (aI9 @ahm (aI9 @alS (aI9 @aq3 (aI9 @acB (aI9 @aq5 (aI9 @Zi (aI9 @alQ (aI9 @aq2 (aI9 @ahn (aI9 @Zm (aI9 @acF (aI9 @ahr (aI9 @aht (aI9 @V4 (aI9 @acK (aI9 @acI (aI9 @acG (aI9 @Zj (aI9 @acJ (aI9 @ahq (aI9 @V3 (aI9 @ahs (aI9 @RY (aI9 @acH (aI9 @PS (aI9 @ahp (aI9 @Zl (aI9 @axI (aI9 @atA (aI9 @F5 (aI9 @qQ (aI9 @yT (aI9 @ahR (aI9 @aDt (aI9 @aDu (aI9 @aDv (aI9 @aDw (aI9 @aDx (aI9 @aDy (aI9 @aDz (aI9 @aDA (aI9 @aDB (aI9 @awq (aI9 @awr (aI9 @awt (aI9 @aru (aI9 @awo (aI9 @awp (aI9 @aww (aI9 @awx (aI9 @awy (aI9 @avw (aI9 @au9 (aI9 @ao0 (aI9 @Tab.j.eq_1 (aI9 @Tab.y.eq_1 (aI9 @Tab.b.eq_1 (aI9 @Tab.S.eq_1 (aI9 @Tab.A.eq_1 (aI9 @Tab.U.eq_1 (aI9 @Tab.L.eq_1 (aI9 @Tab.M.eq_1 (aI9 @Tab.t.eq_1 (aI9 @Tab.i.eq_1 (aI9 @Tab.c.eq_1 (aI9 @Tab.T1.eq_1 (aI9 @Tab.T0.eq_1 (aI9 @Tab.o.eq_1 (aI9 @Tab.q.eq_1 (aI9 @Tab.m.eq_1 (aI9 @Tab.g1.eq_1 (aI9 @Tab.g0.eq_1 (aI9 @Tab.h1.eq_1 (aI9 @Tab.h0.eq_1 (aI9 @Tab.f.eq_1 (aI9 @Tab.l.eq_1 (aI9 @Tab.ll.eq_1 (aI9 @Tab.e.eq_1 (aI9 @Tab.k.eq_1 (aI9 @Tab.s.eq_1 (aI9 @Tab.r.eq_1 (aI9 @Tab.z.eq_1 (aI9 @Tab.u1.eq_1 (aI9 @Tab.u0.eq_1 (aI9 @Tab.ci.eq_1 (aI9 @Tab.fa.eq_1 (aI9 @Tab.ld.eq_1 (aI9 @Tab.la.eq_1 (aI9 @Tab.ex.eq_1 (aI9 @Tab.nc.eq_1 (aI9 @Tab.bv.eq_1 (aI9 @Tab.bh.eq_1 (aI9 @Tab.nt.eq_1 (aI9 @Tab.ln.eq_1 (aI9 @Tab.ia.eq_1 (aI9 @Tab.ap.eq_1 (aI9 @Tab.ei.eq_1 (aI9 @Tab.bt.eq_1 (aI9 @Tab.bi.eq_1 (aI9 @Tab.ka.eq_1 (aI9 @Tab.kb.eq_1 (aI9 @Tab.kc.eq_1 (aI9 @Tab.kd.eq_1 (aI9 @Tab.st.eq_1 (aI9 @Tab.zx.eq_1 (aI9 @Tab.bl.eq_1 (aI9 @Tab.R.eq_1 (aI9 @Tab.Q2.eq_1 (aI9 @Tab.ck.eq_1 (aI9 @cond_true.{1} (aI9 @cond_false.{1} (aI9 @List.length_cons.{0} (aI9 @List.length_nil.{0} (aI9 @Nat.zero_add (aI9 @Nat.add_zero (aI9 @Bool.and_true (aI9 @Bool.true_and (aI9 @Bool.false_and (aI9 @Bool.and_false (aI9 @Bool.not_true (aI9 @Bool.not_false (aI9 @Bool.or_false (aI9 @Bool.false_or (aI9 @List.nil_append.{0} (aI9 @List.cons_append.{0} (aI9 @Qu.eq_1 (aI9 @Gi.eq_1 (aI9 @zH.eq_1 (aI9 @jD.eq_1 (aI9 @vO.eq_1 (aI9 @vP.eq_1 (aI9 @xR.eq_1 (aI9 @zY.eq_1 (aI9 @GY.eq_1 (aI9 @vN.eq_1 (aI9 @iG.eq_1 (aI9 @tN.eq_1 (aI9 @qj.eq_1 (aI9 @xE.eq_1 (aI9 @uh.eq_1 (aI9 @GX.eq_1 (aI9 @lg.eq_1 (aI9 @qL.eq_1 (aI9 @ug.eq_1 (aI9 @mD.eq_1 (aI9 @zI.eq_1 (aI9 @uG.eq_1 (aI9 @uF.eq_1 (aI9 @iC.eq_1 (aI9 @Gj.eq_1 (aI9 @oH.eq_1 (aI9 @leave.eq_1 (aI9 @ng.eq_1 (aI9 @yx.eq_1 (@leI.eq_1))))))))))))))))))))))))))))))))))))))))))))))))))))))))))))))))))))))))))))))))))))))))))))))))))))))))))))))))))))))))))))))))))))))))))))))))))))))))))))))))))))))))))))))))))))))))))))))))))))))))))))))))))))))))))))))))))))))))))))))))))))))))))))))))))))))))))))))))))))))))))))))))))))))))))))))))
def qH(m:Int)(x:Int):Prop:=wX x (Int.ofNat 0)=false/\wX x m=true
def gJ{m x:Int}{N:Nat}{h:H}(hx:qH m x)(hc:getCells h 0=some [.int .i64 m])(h1:mm 347=none) :
  runM mm Tab.fns (N+40) (.call 347 [.int .i64 x,.bg 0 0]) [] [] h=.val (.bool false) h:=by
 obtain⟨ha,hb⟩:=hx;rw[bn (by simp[ay,h1]) (show Tab.fns 347=some Tab.af4 from rfl) rfl];simp -implicitDefEqProofs only[Tab.af4,WW,aS,aZ,aK,pad,aC.ev,bG,aF,skip,bK,finish,resV,dI,cO,dD,eH,eqK,OR.eU,hc,ha,hb];simp[qo,dF,kQ]
inductive Kids (m:Int):Nat->V->Prop
 |nil:Kids m 0 .aj
 |k0 {e:Bool}:Kids m 0 (.list [] e)
 |k1 {x0:Int} {e:Bool} (i0:qH m x0):Kids m 1 (.list [.int .i64 x0] e)
 |k2 {x0 x1:Int} {e:Bool} (i0:qH m x0) (i1:qH m x1):Kids m 2 (.list [.int .i64 x0,.int .i64 x1] e)
 |k3 {x0 x1 x2:Int} {e:Bool} (i0:qH m x0) (i1:qH m x1) (i2:qH m x2):Kids m 3 (.list [.int .i64 x0,.int .i64 x1,.int .i64 x2] e)
 |k4 {x0 x1 x2 x3:Int} {e:Bool} (i0:qH m x0) (i1:qH m x1) (i2:qH m x2) (i3:qH m x3):Kids m 4 (.list [.int .i64 x0,.int .i64 x1,.int .i64 x2,.int .i64 x3] e)
 |k5 {x0 x1 x2 x3 x4:Int} {e:Bool} (i0:qH m x0) (i1:qH m x1) (i2:qH m x2) (i3:qH m x3) (i4:qH m x4):Kids m 5 (.list [.int .i64 x0,.int .i64 x1,.int .i64 x2,.int .i64 x3,.int .i64 x4] e)
 |k6 {x0 x1 x2 x3 x4 x5:Int} {e:Bool} (i0:qH m x0) (i1:qH m x1) (i2:qH m x2) (i3:qH m x3) (i4:qH m x4) (i5:qH m x5):Kids m 6 (.list [.int .i64 x0,.int .i64 x1,.int .i64 x2,.int .i64 x3,.int .i64 x4,.int .i64 x5] e)
 |k7 {x0 x1 x2 x3 x4 x5 x6:Int} {e:Bool} (i0:qH m x0) (i1:qH m x1) (i2:qH m x2) (i3:qH m x3) (i4:qH m x4) (i5:qH m x5) (i6:qH m x6):Kids m 7 (.list [.int .i64 x0,.int .i64 x1,.int .i64 x2,.int .i64 x3,.int .i64 x4,.int .i64 x5,.int .i64 x6] e)
 |k8 {x0 x1 x2 x3 x4 x5 x6 x7:Int} {e:Bool} (i0:qH m x0) (i1:qH m x1) (i2:qH m x2) (i3:qH m x3) (i4:qH m x4) (i5:qH m x5) (i6:qH m x6) (i7:qH m x7):Kids m 8 (.list [.int .i64 x0,.int .i64 x1,.int .i64 x2,.int .i64 x3,.int .i64 x4,.int .i64 x5,.int .i64 x6,.int .i64 x7] e)
def aqM{h:H}{m:Int}(hc:getCells h 0=some [.int .i64 m])(h1:mm 347=none)(h2:mm 242=none)(N:Nat):runM mm Tab.fns (N+400) (.call 242 [.aj,.func (.func 347) [] [.bg 0 0]]) [] [] h=.val (.int .i64 (-1)) h:=by
 rw[bn (by simp[ay,h2]) (show Tab.fns 242=some Tab.sQ from rfl) rfl];simp -implicitDefEqProofs only[Tab.sQ,WW,aS,aZ,aK,pad,aC.ev,bG,aF,bK,Nat.beq,Nat.blt,Nat.ble,finish,resV,dI,cO,dD,eH,eqK,OR.eU]
def aCU{e:Bool}{h:H}{m:Int}(hc:getCells h 0=some [.int .i64 m])(h1:mm 347=none)(h2:mm 242=none)(N:Nat) :runM mm Tab.fns (N+400) (.call 242 [.list [] e,.func (.func 347) [] [.bg 0 0]]) [] [] h=.val (.int .i64 (-1)) h:=by
 rw[bn (by simp[ay,h2]) (show Tab.fns 242=some Tab.sQ from rfl) rfl];simp -implicitDefEqProofs only[Tab.sQ,WW,aS,aZ,aK,pad,aC.ev,bG,aF,bK,Nat.beq,Nat.blt,Nat.ble,finish,resV,dI,cO,dD,eH,eqK,OR.eU]
def aCV{x0:Int}{e:Bool}{h:H}{m:Int}(hc:getCells h 0=some [.int .i64 m])(h1:mm 347=none)(h2:mm 242=none)(N:Nat)(i0:qH m x0):runM mm Tab.fns (N+400) (.call 242 [.list [.int .i64 x0] e,.func (.func 347) [] [.bg 0 0]]) [] [] h=.val (.int .i64 (-1)) h:=by
 rw[bn (by simp[ay,h2]) (show Tab.fns 242=some Tab.sQ from rfl) rfl];simp -implicitDefEqProofs only[Tab.sQ,WW,aS,aZ,aK,pad,aC.ev,aC.evs,bG,aF,skip,bK,Nat.beq,Nat.blt,Nat.ble,finish,resV,dI,cO,dD,mV,eH,iK,eqK,OR.eU,gJ i0 hc h1]
def aCW{x0 x1:Int}{e:Bool}{h:H}{m:Int}(hc:getCells h 0=some [.int .i64 m])(h1:mm 347=none)(h2:mm 242=none)(N:Nat)(i0:qH m x0)(i1:qH m x1):runM mm Tab.fns (N+400) (.call 242 [.list [.int .i64 x0,.int .i64 x1] e,.func (.func 347) [] [.bg 0 0]]) [] [] h=.val (.int .i64 (-1)) h:=by
 rw[bn (by simp[ay,h2]) (show Tab.fns 242=some Tab.sQ from rfl) rfl];simp -implicitDefEqProofs only[Tab.sQ,WW,aS,aZ,aK,pad,aC.ev,aC.evs,bG,aF,skip,bK,Nat.reduceAdd,Nat.beq,Nat.blt,Nat.ble,finish,resV,dI,cO,dD,mV,eH,iK,eqK,OR.eU,gJ i0 hc h1,gJ i1 hc h1]
def aCX{x0 x1 x2:Int}{e:Bool}{h:H}{m:Int}(hc:getCells h 0=some [.int .i64 m])(h1:mm 347=none)(h2:mm 242=none)(N:Nat)(i0:qH m x0)(i1:qH m x1)(i2:qH m x2):runM mm Tab.fns (N+400) (.call 242 [.list [.int .i64 x0,.int .i64 x1,.int .i64 x2] e,.func (.func 347) [] [.bg 0 0]]) [] [] h=.val (.int .i64 (-1)) h:=by
 rw[bn (by simp[ay,h2]) (show Tab.fns 242=some Tab.sQ from rfl) rfl];simp -implicitDefEqProofs only[Tab.sQ,WW,aS,aZ,aK,pad,aC.ev,aC.evs,bG,aF,skip,bK,Nat.reduceAdd,Nat.beq,Nat.blt,Nat.ble,finish,resV,dI,cO,dD,mV,eH,iK,eqK,OR.eU,gJ i0 hc h1,gJ i1 hc h1,gJ i2 hc h1]
def aCY{x0 x1 x2 x3:Int}{e:Bool}{h:H}{m:Int}(hc:getCells h 0=some [.int .i64 m])(h1:mm 347=none)(h2:mm 242=none)(N:Nat)(i0:qH m x0)(i1:qH m x1)(i2:qH m x2)(i3:qH m x3):runM mm Tab.fns (N+400) (.call 242 [.list [.int .i64 x0,.int .i64 x1,.int .i64 x2,.int .i64 x3] e,.func (.func 347) [] [.bg 0 0]]) [] [] h=.val (.int .i64 (-1)) h:=by
 rw[bn (by simp[ay,h2]) (show Tab.fns 242=some Tab.sQ from rfl) rfl];simp -implicitDefEqProofs only[Tab.sQ,WW,aS,aZ,aK,pad,aC.ev,aC.evs,bG,aF,skip,bK,Nat.reduceAdd,Nat.beq,Nat.blt,Nat.ble,finish,resV,dI,cO,dD,mV,eH,iK,eqK,OR.eU,gJ i0 hc h1,gJ i1 hc h1,gJ i2 hc h1,gJ i3 hc h1]
def aCZ{x0 x1 x2 x3 x4:Int}{e:Bool}{h:H}{m:Int}(hc:getCells h 0=some [.int .i64 m])(h1:mm 347=none)(h2:mm 242=none)(N:Nat)(i0:qH m x0)(i1:qH m x1)(i2:qH m x2)(i3:qH m x3)(i4:qH m x4):runM mm Tab.fns (N+400) (.call 242 [.list [.int .i64 x0,.int .i64 x1,.int .i64 x2,.int .i64 x3,.int .i64 x4] e,.func (.func 347) [] [.bg 0 0]]) [] [] h=.val (.int .i64 (-1)) h:=by
 rw[bn (by simp[ay,h2]) (show Tab.fns 242=some Tab.sQ from rfl) rfl];simp -implicitDefEqProofs only[Tab.sQ,WW,aS,aZ,aK,pad,aC.ev,aC.evs,bG,aF,skip,bK,Nat.reduceAdd,Nat.beq,Nat.blt,Nat.ble,finish,resV,dI,cO,dD,mV,eH,iK,eqK,OR.eU,gJ i0 hc h1,gJ i1 hc h1,gJ i2 hc h1,gJ i3 hc h1,gJ i4 hc h1]
def aC0{x0 x1 x2 x3 x4 x5:Int}{e:Bool}{h:H}{m:Int}(hc:getCells h 0=some [.int .i64 m])(h1:mm 347=none)(h2:mm 242=none)(N:Nat)(i0:qH m x0)(i1:qH m x1)(i2:qH m x2)(i3:qH m x3)(i4:qH m x4)(i5:qH m x5):runM mm Tab.fns (N+400) (.call 242 [.list [.int .i64 x0,.int .i64 x1,.int .i64 x2,.int .i64 x3,.int .i64 x4,.int .i64 x5] e,.func (.func 347) [] [.bg 0 0]]) [] [] h=.val (.int .i64 (-1)) h:=by
 rw[bn (by simp[ay,h2]) (show Tab.fns 242=some Tab.sQ from rfl) rfl];simp -implicitDefEqProofs only[Tab.sQ,WW,aS,aZ,aK,pad,aC.ev,aC.evs,bG,aF,skip,bK,Nat.reduceAdd,Nat.beq,Nat.blt,Nat.ble,finish,resV,dI,cO,dD,mV,eH,iK,eqK,OR.eU,gJ i0 hc h1,gJ i1 hc h1,gJ i2 hc h1,gJ i3 hc h1,gJ i4 hc h1,gJ i5 hc h1]
def aC1{x0 x1 x2 x3 x4 x5 x6:Int}{e:Bool}{h:H}{m:Int}(hc:getCells h 0=some [.int .i64 m])(h1:mm 347=none)(h2:mm 242=none)(N:Nat)(i0:qH m x0)(i1:qH m x1)(i2:qH m x2)(i3:qH m x3)(i4:qH m x4)(i5:qH m x5)(i6:qH m x6):runM mm Tab.fns (N+400) (.call 242 [.list [.int .i64 x0,.int .i64 x1,.int .i64 x2,.int .i64 x3,.int .i64 x4,.int .i64 x5,.int .i64 x6] e,.func (.func 347) [] [.bg 0 0]]) [] [] h=.val (.int .i64 (-1)) h:=by
 rw[bn (by simp[ay,h2]) (show Tab.fns 242=some Tab.sQ from rfl) rfl];simp -implicitDefEqProofs only[Tab.sQ,WW,aS,aZ,aK,pad,aC.ev,aC.evs,bG,aF,skip,bK,Nat.reduceAdd,Nat.beq,Nat.blt,Nat.ble,finish,resV,dI,cO,dD,mV,eH,iK,eqK,OR.eU,gJ i0 hc h1,gJ i1 hc h1,gJ i2 hc h1,gJ i3 hc h1,gJ i4 hc h1,gJ i5 hc h1,gJ i6 hc h1]
def aC2{x0 x1 x2 x3 x4 x5 x6 x7:Int}{e:Bool}{h:H}{m:Int}(hc:getCells h 0=some [.int .i64 m])(h1:mm 347=none)(h2:mm 242=none)(N:Nat)(i0:qH m x0)(i1:qH m x1)(i2:qH m x2)(i3:qH m x3)(i4:qH m x4)(i5:qH m x5)(i6:qH m x6)(i7:qH m x7):runM mm Tab.fns (N+400) (.call 242 [.list [.int .i64 x0,.int .i64 x1,.int .i64 x2,.int .i64 x3,.int .i64 x4,.int .i64 x5,.int .i64 x6,.int .i64 x7] e,.func (.func 347) [] [.bg 0 0]]) [] [] h=.val (.int .i64 (-1)) h:=by
 rw[bn (by simp[ay,h2]) (show Tab.fns 242=some Tab.sQ from rfl) rfl];simp -implicitDefEqProofs only[Tab.sQ,WW,aS,aZ,aK,pad,aC.ev,aC.evs,bG,aF,skip,bK,Nat.reduceAdd,Nat.beq,Nat.blt,Nat.ble,finish,resV,dI,cO,dD,mV,eH,iK,eqK,OR.eU,gJ i0 hc h1,gJ i1 hc h1,gJ i2 hc h1,gJ i3 hc h1,gJ i4 hc h1,gJ i5 hc h1,gJ i6 hc h1,gJ i7 hc h1]
def aqN{h:H}{m:Int}(hc:getCells h 0=some [.int .i64 m])(h1:mm 347=none)(h2:mm 242=none)(N:Nat){L:Nat}{ks:V}(hk:Kids m L ks):runM mm Tab.fns (N+400) (.call 242 [ks,.func (.func 347) [] [.bg 0 0]]) [] [] h=.val (.int .i64 (-1)) h:=by
 cases hk with
 |nil=>exact aqM hc h1 h2 N
 |k0 =>exact aCU hc h1 h2 N
 |k1 i0=>exact aCV hc h1 h2 N i0
 |k2 i0 i1=>exact aCW hc h1 h2 N i0 i1
 |k3 i0 i1 i2=>exact aCX hc h1 h2 N i0 i1 i2
 |k4 i0 i1 i2 i3=>exact aCY hc h1 h2 N i0 i1 i2 i3
 |k5 i0 i1 i2 i3 i4=>exact aCZ hc h1 h2 N i0 i1 i2 i3 i4
 |k6 i0 i1 i2 i3 i4 i5=>exact aC0 hc h1 h2 N i0 i1 i2 i3 i4 i5
 |k7 i0 i1 i2 i3 i4 i5 i6=>exact aC1 hc h1 h2 N i0 i1 i2 i3 i4 i5 i6
 |k8 i0 i1 i2 i3 i4 i5 i6 i7=>exact aC2 hc h1 h2 N i0 i1 i2 i3 i4 i5 i6 i7
def avk{h:H}{m:Int}{L:Nat}{ks:V}(hc:getCells h 0=some [.int .i64 m])(h1:mm 347=none)(h2:mm 242=none)(h3:mm 170=none)(hk:Kids m L ks)(N:Nat) :
  runM mm Tab.fns (N+500) (.call 170 [ks,.func (.func 347) [] [.bg 0 0]]) [] [] h=.val (.bool false) h:=by
 rw[bn (by simp[ay,h3]) (show Tab.fns 170=some Tab.afV from rfl) rfl];have hl1:wX (-(Int.ofNat 1)) (Int.ofNat 0)=true:=rfl;have hi:=λN=>aqN hc h1 h2 N hk;have hL:wo ks=false:=by cases hk<;>rfl
 generalize hx:ks=X at hi hL;simp -implicitDefEqProofs only[Tab.afV,WW,aS,aZ,aK,pad,aC.ev,aC.evs,bG,aF,bK,finish,resV,dI,cO,dD,eqK,OR.eU,hL,hi,hl1]
inductive Ci:Int->Int->List Nat->Nat->Prop
 |int (n:Int):Ci 1 n [] 0
 |con {n:Int} {nm:List Nat} {L:Nat} (h:wX n (Int.ofNat L)=false):Ci 2 n nm L
 |fn {n:Int} {L:Nat} (h:wX n (Int.ofNat 0)=false):Ci 3 n [] L
 |thunk {n:Int} {L:Nat} (h:wX n (Int.ofNat 0)=false):Ci 4 n [] L
 |hole {n:Int} (h:wX n (Int.ofNat 0)=false):Ci 5 n [] 0
 |ind {n:Int} (h:wX n (Int.ofNat 0)=false):Ci 6 n [] 1
 |aAD {n:Int} (h:wX n (Int.ofNat 0)=false):Ci 7 n [] 0
end
section
open Go Go.RowKit
variable {mm:eF}
def vG:emp.next=0:=rfl
def boxed(m:V):getCells (emp.new (.cells [m])) 0=some [m]:=rfl
def zq(b:Bool)(h:H):qo (.bool b) h=(.bool b,h):=by simp[qo,dF,kQ]
def IU(k:IntKind)(b:Int)(h:H):qo (.int k b) h=(.int k b,h):=by simp[qo,dF,kQ]
def arF{k n m:Int}{nm:List Nat}{L:Nat}{ks:V}(h0:mm 285=none)(h1:mm 347=none)(h2:mm 242=none)(h3:mm 170=none)(hk:Kids m L ks)(hn:Ci k n nm L)(N:Nat) :
  runM mm Tab.fns (N+700) (.call 285 [nd k n nm ks,.int .i64 m]) [] [] emp=.val (.bool true) (emp.new (.cells [.int .i64 m])):=by
 rw[bn (by simp[ay,h0]) (show Tab.fns 285=some Tab.He from rfl) rfl];have hi:=λN=>avk (boxed (.int .i64 m)) h1 h2 h3 hk N;have hL:wo ks=false:=by cases hk<;>rfl
 have hl:lenOf (emp.new (.cells [.int .i64 m])) 0 ks=some L:=by cases hk<;>rfl
 generalize hx:ks=X at hi hL hl;unfold nd;cases hn with
 |int n=>simp -implicitDefEqProofs only[Tab.He,WW,aS,aZ,aK,pad,aC.ev,aC.evs,fJ,bG,aF,dA,eP,skip,bK,Nat.beq,finish,resV,dI,eqK,nH,fU,gX,jU,OR.eU,hL,hi,vG,hl,mW,zq]
 |con hh=>simp -implicitDefEqProofs only[Tab.He,WW,aS,aZ,aK,pad,aC.ev,aC.evs,fJ,bG,aF,dA,eP,skip,bK,Nat.beq,finish,resV,dI,cO,dD,eqK,nH,fU,gX,jU,OR.eU,hL,hi,vG,hl,zq,hh]
 |fn hh=>simp -implicitDefEqProofs only[Tab.He,WW,aS,aZ,aK,pad,aC.ev,aC.evs,fJ,bG,aF,dA,eP,skip,bK,Nat.beq,finish,resV,dI,cO,dD,eqK,nH,fU,gX,jU,OR.eU,hL,hi,vG,hl,mW,zq,hh,jP]
 |thunk hh=>simp -implicitDefEqProofs only[Tab.He,WW,aS,aZ,aK,pad,aC.ev,aC.evs,fJ,bG,aF,dA,eP,skip,bK,Nat.beq,finish,resV,dI,cO,dD,eqK,nH,fU,gX,jU,OR.eU,hL,hi,vG,hl,mW,zq,hh,jP]
 |hole hh=>simp -implicitDefEqProofs only[Tab.He,WW,aS,aZ,aK,pad,aC.ev,aC.evs,fJ,bG,aF,dA,eP,skip,bK,Nat.beq,finish,resV,dI,cO,dD,eqK,nH,fU,gX,jU,OR.eU,hL,hi,vG,hl,mW,zq,hh]
 |ind hh=>simp -implicitDefEqProofs only[Tab.He,WW,aS,aZ,aK,pad,aC.ev,aC.evs,fJ,bG,aF,dA,eP,skip,bK,Nat.beq,Nat.blt,Nat.ble,finish,resV,dI,cO,dD,mV,iK,eqK,nH,fU,gX,jU,OR.eU,hL,hi,vG,hl,mW,zq,hh]
 |aAD hh=>simp -implicitDefEqProofs only[Tab.He,WW,aS,aZ,aK,pad,aC.ev,aC.evs,fJ,bG,aF,dA,eP,skip,bK,Nat.beq,finish,resV,dI,cO,dD,eqK,nH,fU,gX,jU,OR.eU,hL,hi,vG,hl,mW,zq,hh]
end
section
open Go Go.RowKit
inductive IsNode:V->Prop
 |nil (k n:Int) (nm:List Nat):IsNode (nd k n nm .aj)
 |list (k n:Int) (nm:List Nat) (l:List V) (e:Bool):IsNode (nd k n nm (.list l e))
def Nodes(ns:List V):Prop:=∀v∈ns,IsNode v
def Nodes.nil:Nodes []:=λ_ h=>by cases h
def Nodes.cons{v:V}{ns:List V}(h:IsNode v)(hs:Nodes ns):Nodes (v::ns):=λx hx=>by
 rcases bU.1 hx with rfl|hx
 .exact h
 .exact hs x hx
def Nodes.head{v:V}{ns:List V}(h:Nodes (v::ns)):IsNode v:=h v bZ
def Nodes.tail{v:V}{ns:List V}(h:Nodes (v::ns)):Nodes ns:=λx hx=>h x (bW _ hx)
def Nodes.append{a b:List V}(h1:Nodes a)(h2:Nodes b):Nodes (a++b):=λx hx=>by
 rcases dH.1 hx with hx|hx
 .exact h1 x hx
 .exact h2 x hx
def IsNode.cells{v:V}(h:IsNode v):v.cells.length=4/\v=.agg v.cells:=by cases h<;>exact⟨rfl,rfl⟩
def fl:List V->List V
 |[]=>[]
 |v::ns=>v.cells++fl ns
def Bo:∀a b:List V,fl (a++b)=fl a++fl b
 |[],b=>rfl
 |v::a,b=>by simp only[dZ,fl,Bo a b,fP]
def YJ:∀{ns:List V},Nodes ns->oO ns=fl ns
 |[],_=>rfl
 |v::ns,h=>by
  have ih:=YJ h.tail;cases h.head<;>simp only[nd,oO,fl,V.cells,ih]
def FT:∀{ns:List V},Nodes ns->(fl ns).length=ns.length*4
 |[],_=>rfl
 |v::ns,h=>by
  simp only[fl,bI,FT h.tail,h.head.cells.1,bP];omega
def JF:∀(n:Nat) (l:List V),n<=l.length->takeN n l=some (l.take n)
 |0,l,_=>by simp[takeN]
 |n+1,[],h=>by simp at h
 |n+1,x::l,h=>by
  simp only[takeN,JF n l (by simpa using h),List.take_succ_cons]
def pX:∀(n:Nat) (l:List V),skip n l=l.drop n
 |0,l=>by simp[skip]
 |n+1,[]=>by simp[skip]
 |n+1,x::l=>by simp only[skip,pX n l,List.drop_succ_cons]
def zh{l:List V}{n:Nat}(h:n=l.length):takeN n l=some l:=by
 rw[JF n l (by omega),h,List.take_length]
def N4(v:V):Prop:=v.cells.length=4/\elemOf v.cells=v
def IsNode.n4{v:V}(h:IsNode v):N4 v:=⟨h.cells.1,by cases h<;>rfl⟩
def aut(k n:Int)(nm:List Nat)(ks:V):N4 (nd k n nm ks):=⟨rfl,rfl⟩
def OH:∀{ns:List V},(∀v∈ns,N4 v)->chunk 4 ns.length (fl ns)=some ns
 |[],_=>rfl
 |v::ns,h=>by
  have hc:=h v bZ;have h1:takeN 4 (v.cells++fl ns)=some v.cells:=by
   rw[JF 4 _ (by simp[hc.1])];simp[hc.1]
  have h2:skip 4 (v.cells++fl ns)=fl ns:=by
   rw[pX];simp[hc.1]
  simp only[bP,fl,chunk,h1,h2,OH λx hx=>h x (bW _ hx),hc.2]
def Nodes.n4{ns:List V}(h:Nodes ns):∀v∈ns,N4 v:=λv hv=>(h v hv).n4
def Ie:∀(cs vs:List V),vs.length<=cs.length->bC cs vs=some (vs++cs.drop vs.length)
 |cs,[],_=>by cases cs<;>simp[bC]
 |[],v::vs,h=>by simp at h
 |c::cs,v::vs,h=>by
  simp only[bC,Ie cs vs (by simpa using h),bP,List.drop_succ_cons,dZ]
def ql:∀(n:Nat) (cs vs:List V),n+vs.length<=cs.length->splice n cs vs=some (cs.take n++(vs++cs.drop (n+vs.length)))
 |0,cs,vs,h=>by simp only[splice,Ie cs vs (by omega),List.take_zero,je,iF]
 |n+1,[],vs,h=>by simp at h
 |n+1,c::cs,vs,h=>by
  simp only[bP]at h;have h1:n+1+vs.length=(n+vs.length)+1:=by omega
  simp only[splice,ql n cs vs (by omega),List.take_succ_cons,h1,List.drop_succ_cons,dZ]
def UE:∀{ns:List V} {a:Nat} {v:V},Nodes ns->a<ns.length->v.cells.length=4->splice (a*4) (fl ns) v.cells=some (fl (ns.set a v))
 |[],a,v,_,h,_=>by simp at h
 |x::ns,0,v,hn,_,hv=>by
  have h1:=hn.head.cells.1;have h2:=hv;rw[Nat.zero_mul,ql 0 _ _ (by simp[fl,h1,h2])];simp[fl,h1,h2]
 |x::ns,a+1,v,hn,h,hv=>by
  have h1:=hn.head.cells.1;have h2:=hv;have ha:a<ns.length:=by simpa using h
  have hl:=FT hn.tail;have ih:=UE hn.tail ha hv;rw[ql (a*4) _ _ (by omega)]at ih;rw[ql ((a+1)*4) _ _ (by simp only[fl,bI];omega)];have e1:(a+1)*4=x.cells.length+a*4:=by omega
  have e2:(a+1)*4+v.cells.length=x.cells.length+(a*4+v.cells.length):=by omega
  rw[e2,e1];simp only[fl,rO,List.take_length_add_append,List.drop_length_add_append,fP];rw[aG]at ih|-;rw[ih]
def MG(z:List V):∀n,(rep z n).length=n*z.length
 |0=>by simp[rep]
 |n+1=>by simp only[rep,bI,MG z n,kW];omega
def Q8{ns:List V}(h:Nodes ns):xY 4 ns=true:=by
 cases ns with
 |nil=>rfl
 |cons v ns=>simp only[xY,h.head.cells.1];rfl
def agX{v:V}(h:IsNode v)(N:Nat)(vs:List V)(hh:H):dF (N+6) (v::vs) hh=kQ v (dF (N+5) vs hh):=by
 cases h<;>simp[nd,dF,kQ]
def CU:∀{ns:List V} (rest:List V) (N:Nat) (hh:H),Nodes ns->dF (N+5+ns.length) (ns++rest) hh=(ns++(dF (N+5) rest hh).1,(dF (N+5) rest hh).2)
 |[],rest,N,hh,_=>by simp
 |v::ns,rest,N,hh,h=>by
  have e:N+5+(v::ns).length=(N+ns.length)+6:=by simp only[bP];omega
  have e2:N+ns.length+5=N+5+ns.length:=by omega
  rw[e,dZ,agX h.head,e2,CU rest N hh h.tail];rfl
def aia(a b:List V):bf (a++b)=(bf a&&bf b):=by
 induction a with
 |nil=>simp[bf]
 |cons x a ih=>simp[bf,ih,Bool.and_assoc]
def afq:∀{ns:List V},Nodes ns->bf (fl ns)=true
 |[],_=>rfl
 |v::ns,h=>by
  have ih:=afq h.tail;rw[fl,aia,ih];cases h.head<;>rfl
def mG:V->V
 |.list (x::xs) _=>.hsl 0 0 (xs.length+1) none 1
 |.list [] _=>.list [] true
 |v=>v
def BR:V->H
 |.list (x::xs) _=>emp.new (.cells (x::xs))
 |_=>emp
def dU:V->V
 |.list (x::xs) _=>.list (x::xs) false
 |.list [] _=>.list [] true
 |v=>v
end
section
open Go Go.RowKit
def iH{a b:Nat}(h:¬a=b):Nat.beq a b=false:=by
 cases hb:Nat.beq a b with
 |false=>rfl
 |true=>exact absurd (aP hb) h
def dO{a b:Nat}(h:a<=b):Nat.ble a b=true:=Nat.ble_eq_true_of_le h
def tu{a b:Nat}(h:b<a):Nat.ble a b=false:=by
 cases hq:Nat.ble a b with
 |false=>rfl
 |true=>have:=jA hq;omega
def nP{a b:Nat}(h:a<b):Nat.blt a b=true:=dO h
def AU:∀(l:List V) (i:Nat) (v:V),(lC l i v).length=l.length
 |[],i,v=>by simp[Je]
 |x::l,0,v=>by simp[wW]
 |x::l,i+1,v=>by simp[su,AU l i v]
def Na:∀{l:List V} {i:Nat} {v:V},i<l.length->aA (lC l i v) i=v
 |[],i,v,h=>by simp at h
 |x::l,0,v,_=>by rw[wW,kG]
 |x::l,i+1,v,h=>by rw[su,iL];exact Na (by simpa using h)
def Gv:∀{l:List V} {i j:Nat} {v:V},i≠j->aA (lC l i v) j=aA l j
 |[],i,j,v,h=>by simp[Je]
 |x::l,0,0,v,h=>absurd rfl h
 |x::l,0,j+1,v,_=>by rw[wW,iL,iL]
 |x::l,i+1,0,v,_=>by rw[su,kG,kG]
 |x::l,i+1,j+1,v,h=>by rw[su,iL,iL];exact Gv (by omega)
def oG(t:Nat)(v:V):V:=match v with|.aY u o=>bif Nat.beq u t then .undef else .aY u o|v=>v
def Hf(t:Nat):∀l:List V,(fJ t l).length=l.length
 |[]=>rfl
 |v::l=>by simp[fJ,Hf t l]
def MZ(t:Nat):∀(l:List V) (j:Nat),aA (fJ t l) j=oG t (aA l j)
 |[],j=>by simp[fJ,Jb,oG]
 |v::l,0=>by cases v<;>simp[fJ,kG,oG]
 |v::l,j+1=>by
  have:fJ t (v::l)=(fJ t (v::l)).head (by simp[fJ])::fJ t l:=by simp[fJ]
  rw[this,iL,iL];exact MZ t l j
def acU{t b}:oG t (.bool b)=.bool b:=rfl
def ahF{t k n}:oG t (.int k n)=.int k n:=rfl
def Zy{t}:oG t .aj=.aj:=rfl
def acY{t l e}:oG t (.list l e)=.list l e:=rfl
def ahE{t a b c d e}:oG t (.hsl a b c d e)=.hsl a b c d e:=rfl
def acX{t a b}:oG t (.bg a b)=.bg a b:=rfl
def ahD{t l}:oG t (.agg l)=.agg l:=rfl
def ZA{t}:oG t .undef=.undef:=rfl
def acZ{t u o}:oG t (.aY u o)=bif Nat.beq u t then .undef else .aY u o:=rfl
def DC:∀(lo:Lo) (t:Nat) (cs:List V),dA (eP lo t cs) t=some cs
 |[],t,cs=>by simp[eP,dA]
 |(u,ds)::r,t,cs=>by
  simp only[eP];cases hb:Nat.beq u t with
  |true=>simp only[cond_true,dA,hb]
  |false=>simp only[cond_false,dA,hb];exact DC r t cs
def Ru:∀{lo:Lo} {t s:Nat} {cs:List V},t≠s->dA (eP lo t cs) s=dA lo s
 |[],t,s,cs,h=>by
  have:Nat.beq t s=false:=iH h;simp[eP,dA,this]
 |(u,ds)::r,t,s,cs,h=>by
  simp only[eP];cases hb:Nat.beq u t with
  |true =>
   have hu:=aP hb;subst hu;have:Nat.beq u s=false:=iH h;simp only[cond_true,dA,this,cond_false]
  |false =>
   simp only[cond_false,dA];rw[Ru h]
def ahH{t s}:oG t (.str s)=.str s:=rfl
def ahG{t s}:oG t (.map s)=.map s:=rfl
def acW{t f a b}:oG t (.func f a b)=.func f a b:=rfl
def acV{t l}:oG t (.iE l)=.iE l:=rfl
def Zz{t l}:oG t (.tuple l)=.tuple l:=rfl
variable {h:H}{i j:Nat}{cs ds:List V}{es:List (V×V)}{o:Obj}
def aud{i:Nat}(e:h.get i=some (.cells cs)):getCells h i=some cs:=by simp only[getCells,e]
def alf(e:getCells h i=some cs):h.get i=some (.cells cs):=by
 unfold getCells at e;cases hg:h.get i with
 |none=>rw[hg]at e;cases e
 |some o=>rw[hg]at e;cases o<;>first|(cases e;rfl)|cases e
def aue{i:Nat}(e:h.get i=some (.map es)):gK h i=some es:=by simp only[gK,e]
def get_set_same(h:H)(i:Nat)(o:Obj):(h.set i o).get i=some o:=by rw[H.qG,if_pos rfl]
def eu(o:Obj)(e:i≠j):(h.set i o).get j=h.get j:=by rw[H.qG,if_neg e]
def IY(h:H)(o:Obj):(h.new o).get h.next=some o:=by rw[H.rY,if_pos rfl]
def iq(o:Obj)(e:h.next≠j):(h.new o).get j=h.get j:=by rw[H.rY,if_neg e]
def kE(e:i≠j):(h.del i).get j=h.get j:=by rw[H.Ag,if_neg e]
def gG:getCells (h.set i (.cells cs)) i=some cs:=aud (get_set_same _ _ _)
def gy(e:i≠j):getCells (h.set i o) j=getCells h j:=by simp only[getCells,eu o e]
def fO:getCells (h.new (.cells cs)) h.next=some cs:=aud (IY _ _)
def oD(e:h.next≠j):getCells (h.new o) j=getCells h j:=by simp only[getCells,iq o e]
def Tt(e:i≠j):getCells (h.del i) j=getCells h j:=by simp only[getCells,kE e]
def Ah:gK (h.set i (.map es)) i=some es:=aue (get_set_same _ _ _)
def FW(e:i≠j):gK (h.set i o) j=gK h j:=by simp only[gK,eu o e]
def YV:gK (h.new (.map es)) h.next=some es:=aue (IY _ _)
def Kq(e:h.next≠j):gK (h.new o) j=gK h j:=by simp only[gK,iq o e]
def ag0(e:i≠j):gK (h.del i) j=gK h j:=by simp only[gK,kE e]
def qp:(h.set i o).next=h.next:=rfl
def iU:(h.new o).next=h.next+1:=rfl
def xg:(h.del i).next=h.next:=rfl
section
variable {ih:Ih}{fr:List V}{lo:Lo}
def yc:aS ih .skip fr lo h=.norm fr lo h:=rfl
def dX{os:List Ins}:aS ih (.region os) fr lo h=ih (.ops os) fr lo h:=rfl
def ajS{os:List Ins}:aS ih (.draw os) fr lo h=ih (.draws os) fr lo h:=rfl
def jX{a b:aN}:aS ih (.seq a b) fr lo h=jC ih b (ih (.code a) fr lo h):=rfl
def vF{c:aC}{a b:aN}:aS ih (.cond c a b) fr lo h=I9 ih (c.ev fr) a b fr lo h:=rfl
def jK{id:Nat}{c:aN}:aS ih (.block id c) fr lo h=iw id (ih (.code c) fr lo h):=rfl
def OC:aS ih .ret fr lo h=.jump .ret fr lo h:=rfl
end
def PX{t:Nat}{v:V}(h:wo v=false):oG t v=v:=by cases v<;>first|rfl|cases h
def jn(n:Nat):V:=.int .i64 (.ofNat n)
def LL9:=aI9 @AU (aI9 @Na (aI9 @Gv (aI9 @Hf (aI9 @MZ (aI9 @acU (aI9 @ahF (aI9 @Zy (aI9 @acY (aI9 @ahE (aI9 @acX (aI9 @ahD (aI9 @ZA (aI9 @acZ (aI9 @ahH (aI9 @ahG (aI9 @acW (aI9 @acV (aI9 @Zz (aI9 @DC (aI9 @Ru (aI9 @ne_eq.{1} (aI9 @not_false_eq_true (aI9 @cond_true.{1} (@cond_false.{1}))))))))))))))))))))))))
end
end Go.Vx
